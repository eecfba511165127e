/- Own work. -/
import Derived.Test.YtekgjjgbdcgldaaGreatChecked
import Derived.Test.YtekgjjgbdcgldaaGreatEvOCePf
import Derived.KernelRfl
import Derived.Shelf.Spec.SlicesGrow
set_option linter.all false
def Qha:=@Eq.trans
def Qhb:=@Nat.gcd_pos_of_pos_right
def Qhc:=@List.getElem?_eq_some_iff
def Qhd:=@Nat.gcd_le_right
def Qhe:=@List.getElem?_replicate
def Qhf:=@Nat.le_refl
namespace Go.Ev.Ce
open Go Go.Ev Go.Proofs
set_option maxRecDepth 1000000
theorem mx:(Tryz.prog).follows .mixedOrders=true:=Checked.mixed Tryz.checked
abbrev Bdq(n:Nat)(pf:PFn):Prop:=qe7 Tryz.prog n λE=>Ob3 E pf
theorem bdq{f:FuncId}{fn:Func}(hf:(Tryz.prog).funcs[f]?=some fn)(hn:decide (fn.name ≠ "runtime.NumGoroutine")=true:=by kernel_rfl)(hc:Option.isSome (e7 Tryz.prog fn)=true:=by kernel_rfl):Bdq f (got (e7 Tryz.prog fn)):=ag7 mx hf hn (Nd8 hc)
theorem b3:Bdq 3 pf3:=bdq Tryz.func3
theorem b4:Bdq 4 pf4:=bdq Tryz.func4
theorem b5:Bdq 5 pf5:=bdq Tryz.func5
theorem b6:Bdq 6 pf6:=bdq Tryz.func6
theorem b10:Bdq 10 Rf0:=bdq Tryz.func10
theorem b16:Bdq 16 ag8:=bdq Tryz.func16
theorem b23:Bdq 23 Rf1:=bdq Tryz.func23
theorem b25:Bdq 25 Rf2:=bdq Tryz.func25
theorem b27:Bdq 27 ag9:=bdq Tryz.func27
theorem b34:Bdq 34 bg0:=bdq Tryz.func34
theorem b37:Bdq 37 bg1:=bdq Tryz.func37
theorem b38:Bdq 38 bg2:=bdq Tryz.func38
theorem b39:Bdq 39 bg3:=bdq Tryz.func39
theorem b40:Bdq 40 Rf3:=bdq Tryz.func40
theorem b42:Bdq 42 bg4:=bdq Tryz.func42
theorem b45:Bdq 45 bg5:=bdq Tryz.func45
theorem b47:Bdq 47 Rf4:=bdq Tryz.func47
theorem b49:Bdq 49 Rf5:=bdq Tryz.func49
theorem b51:Bdq 51 bg6:=bdq Tryz.func51
theorem b52:Bdq 52 bg7:=bdq Tryz.func52
theorem b53:Bdq 53 bg8:=bdq Tryz.func53
theorem b54:Bdq 54 bg9:=bdq Tryz.func54
theorem b55:Bdq 55 cg0:=bdq Tryz.func55
theorem b56:Bdq 56 cg1:=bdq Tryz.func56
theorem b57:Bdq 57 cg2:=bdq Tryz.func57
theorem b63:Bdq 63 cg3:=bdq Tryz.func63
theorem b68:Bdq 68 cg4:=bdq Tryz.func68
theorem b69:Bdq 69 cg5:=bdq Tryz.func69
theorem b70:Bdq 70 cg6:=bdq Tryz.func70
theorem b71:Bdq 71 rf6:=bdq Tryz.func71
theorem b73:Bdq 73 cg7:=bdq Tryz.func73
theorem b78:Bdq 78 We3:=bdq Tryz.func78
theorem b80:Bdq 80 cg8:=bdq Tryz.func80
theorem b83:Bdq 83 cg9:=bdq Tryz.func83
theorem b84:Bdq 84 dg0:=bdq Tryz.func84
theorem b86:Bdq 86 dg1:=bdq Tryz.func86
theorem b93:Bdq 93 dg2:=bdq Tryz.func93
theorem b94:Bdq 94 Rf6:=bdq Tryz.func94
theorem b95:Bdq 95 Rf7:=bdq Tryz.func95
theorem b96:Bdq 96 Rf8:=bdq Tryz.func96
theorem b97:Bdq 97 dg3:=bdq Tryz.func97
theorem b98:Bdq 98 dg4:=bdq Tryz.func98
theorem b99:qe7 Tryz.prog 99 λE=>Ub1 E Jf1:=We2 (h:=h99) mx Tryz.func99 (by kernel_rfl) Tryz.func190 (by kernel_rfl) (Nd8 (by kernel_rfl))
theorem dg5:Bdq 100 Bf2:=bdq Tryz.func100
theorem dg6:Bdq 101 We4:=bdq Tryz.func101
theorem Vf7:Bdq 103 Rf9:=bdq Tryz.func103
theorem dg7:Bdq 104 Sf0:=bdq Tryz.func104
theorem dg8:Bdq 107 Sf1:=bdq Tryz.func107
theorem dg9:Bdq 108 Sf2:=bdq Tryz.func108
theorem eg0:Bdq 109 Sf3:=bdq Tryz.func109
theorem eg1:Bdq 110 Sf4:=bdq Tryz.func110
theorem eg2:Bdq 111 Sf5:=bdq Tryz.func111
theorem Vf8:Bdq 112 Sf6:=bdq Tryz.func112
theorem eg3:Bdq 113 Sf7:=bdq Tryz.func113
theorem eg4:Bdq 114 Sf8:=bdq Tryz.func114
theorem eg5:Bdq 115 Sf9:=bdq Tryz.func115
theorem eg6:Bdq 116 Tf0:=bdq Tryz.func116
theorem eg7:Bdq 121 Tf1:=bdq Tryz.func121
theorem eg8:Bdq 122 Tf2:=bdq Tryz.func122
theorem eg9:Bdq 123 We5:=bdq Tryz.func123
theorem fg0:Bdq 124 Tf3:=bdq Tryz.func124
theorem fg1:Bdq 125 Bf3:=bdq Tryz.func125
theorem fg2:Bdq 126 Bf4:=bdq Tryz.func126
theorem fg3:Bdq 127 Bf5:=bdq Tryz.func127
theorem fg4:Bdq 128 Tf4:=bdq Tryz.func128
theorem fg5:Bdq 135 Tf5:=bdq Tryz.func135
theorem fg6:Bdq 138 Bf6:=bdq Tryz.func138
theorem rf7:Bdq 139 be8:=bdq Tryz.func139
theorem fg7:Bdq 140 Tf6:=bdq Tryz.func140
theorem fg8:Bdq 141 Tf7:=bdq Tryz.func141
theorem fg9:Bdq 142 Tf8:=bdq Tryz.func142
theorem gg0:Bdq 149 Tf9:=bdq Tryz.func149
theorem Vf9:Bdq 150 Bf7:=bdq Tryz.func150
theorem Jf2:Bdq 151 Uf0:=bdq Tryz.func151
theorem gg1:Bdq 152 Bf8:=bdq Tryz.func152
theorem gg2:Bdq 153 Uf1:=bdq Tryz.func153
theorem Wf0:Bdq 154 We6:=bdq Tryz.func154
theorem gg3:Bdq 155 Bf9:=bdq Tryz.func155
theorem gg4:Bdq 156 Uf2:=bdq Tryz.func156
theorem gg5:Bdq 157 Uf3:=bdq Tryz.func157
theorem gg6:Bdq 158 Uf4:=bdq Tryz.func158
theorem gg7:Bdq 159 Cf0:=bdq Tryz.func159
theorem Wf1:Bdq 161 We7:=bdq Tryz.func161
theorem gg8:Bdq 162 Uf5:=bdq Tryz.func162
theorem gg9:Bdq 163 Cf1:=bdq Tryz.func163
theorem hg3:Bdq 164 Uf6:=bdq Tryz.func164
theorem hg4:Bdq 165 Uf7:=bdq Tryz.func165
theorem hg5:qe7 Tryz.prog 166 λE=>Ub1 E We8:=We2 (h:=Qf9) mx Tryz.func166 (by kernel_rfl) Tryz.func193 (by kernel_rfl) (Nd8 (by kernel_rfl))
theorem hg6:qe7 Tryz.prog 167 λE=>Ub1 E ye2:=We2 (h:=Qf8) mx Tryz.func167 (by kernel_rfl) Tryz.func221 (by kernel_rfl) (Nd8 (by kernel_rfl))
theorem hg7:Bdq 168 Uf8:=bdq Tryz.func168
theorem hg8:Bdq 169 Uf9:=bdq Tryz.func169
theorem hg9:Bdq 170 Vf0:=bdq Tryz.func170
theorem Wf2:Bdq 171 We9:=bdq Tryz.func171
theorem ig0:Bdq 172 Vf1:=bdq Tryz.func172
theorem ig1:Bdq 179 Cf2:=bdq Tryz.func179
theorem ig2:Bdq 180 Cf3:=bdq Tryz.func180
theorem ig3:Bdq 181 ye3:=bdq Tryz.func181
theorem ig4:Bdq 182 Cf4:=bdq Tryz.func182
theorem ig5:Bdq 183 Vf2:=bdq Tryz.func183
theorem ig6:Bdq 184 Vf3:=bdq Tryz.func184
theorem ig7:Bdq 186 Xe0:=bdq Tryz.func186
theorem ig8:Bdq 191 Cf5:=bdq Tryz.func191
theorem ig9:Bdq 194 Cf6:=bdq Tryz.func194
theorem jg0:Bdq 195 Vf4:=bdq Tryz.func195
theorem jg1:Bdq 196 Cf7:=bdq Tryz.func196
theorem jg2:Bdq 199 Cf8:=bdq Tryz.func199
theorem jg3:Bdq 207 Cf9:=bdq Tryz.func207
theorem jg4:Bdq 208 Df0:=bdq Tryz.func208
theorem jg5:Bdq 209 Vf5:=bdq Tryz.func209
theorem jg6:Bdq 210 Df1:=bdq Tryz.func210
theorem jg7:Bdq 211 Df2:=bdq Tryz.func211
theorem jg8:Bdq 221 Df3:=bdq Tryz.func221
theorem jg9:Bdq 222 Xe1:=bdq Tryz.func222
theorem kg0:Bdq 228 Vf6:=bdq Tryz.func228
theorem kg1:Bdq 229 Df4:=bdq Tryz.func229
end Go.Ev.Ce
namespace Go.Ev.L
open Go Go.Ev
noncomputable def gc6:RT->PC->PS2
 |.s a b,.seq x y=>.seq (gc6 a x) (gc6 b y)
 |.c a b,.cond g x y=>.cond g (gc6 a x) (gc6 b y)
 |.b a,.block id x=>.block id (gc6 a x)
 |.i a,.inner f x n c=>.inner f x n (gc6 a c)
 |.u S,_=>.sum S
 |_,c=>.pc c
theorem Nd9{E:Env}{k:Nat}(rt:RT)(c:PC):ab4 (λx=>∀s,ea8 (x.1 s) (S3 E k x.2 s)) (qc2 rt c)->ra3 E k (gc6 rt c) c:=by
 induction rt generalizing c with
 |p=>intro h;cases c<;>exact .pc _
 |s a b iha ihb =>
  intro h;cases c with
  |seq x y=>exact .seq (iha x (ab4.app h).1) (ihb y (ab4.app h).2)
  |_=>exact .pc _
 |c a b iha ihb =>
  intro h;cases c with
  |cond g x y=>exact .cond g (iha x (ab4.app h).1) (ihb y (ab4.app h).2)
  |_=>exact .pc _
 |b a iha =>
  intro h;cases c with
  |block id x=>exact .block id (iha x h)
  |_=>exact .pc _
 |l a iha=>intro h;cases c<;>exact .pc _
 |i a iha =>
  intro h;cases c with
  |inner f x n c=>exact .inner f x n (iha c h)
  |_=>exact .pc _
 |u S =>
  intro h
  have:qc2 (.u S) c=[(S,c)]:=by cases c<;>rfl
  rw[this] at h;cases h with
  |cons h t =>
   have e:gc6 (.u S) c=.sum S:=by cases c<;>rfl
   rw[e];exact .sum h
section
variable{π σ:Type}{E:Env}{k:Nat}{keep:List Nat}{alts:List (Al2 π σ)}{enc:π->σ->St}{step:π->σ->Stp σ}{xs:Xs π σ}{body:PS2}{c:PC}
theorem fc5.belowM(hb:ra3 E k body c)(hN:E.N=rounds+1)(w:fc5 be7 k keep (Mc6 E k body) alts step xs enc)(s:St):ea8 (Dd9 be7 k keep alts step xs s) (S3 E k (.loopM keep c) s):=λr hr=>by
 obtain⟨t,h1,h2⟩:=w.go hr;rw[qe6,hN];exact Tb6 hb.le _ _ _ (oc0 h1 h2)
theorem fc5.belowML(hb:ra3 E k body c)(hN:E.N=rounds+1)(w:fc5 ec8 k keep (Mc6 E k body) alts step xs enc)(s:St):ea8 (Dd9 ec8 k keep alts step xs s) (S3 E k (.loop keep c) s):=λr hr=>by
 obtain⟨t,h1,h2⟩:=w.go hr;rw[Dd8,hN];exact Tb6 hb.le _ _ _ (oc0 h1 h2)
end
end Go.Ev.L
namespace Go.Ev.Ab
open Go Go.Ev
@[reducible] def o(d:Nat)(x:PO):PI:=⟨some d,none,[],x⟩
@[reducible] def s(x:PO):PI:=⟨none,none,[],x⟩
@[reducible] def ci(n:Int):Arg:=.c (.v (.int .i64 n))
@[reducible] def cb(b:Bool):Arg:=.c (.v (.bool b))
@[reducible] def vi(n:Int):b7:=.v (.int .i64 n)
@[reducible] def rep{α:Type}(n:Nat)(x:α):List α:=List.replicate n x
@[reducible] def ki(n:Nat):List CK:=List.replicate n (.int .i64)
@[reducible] def mv(d n:Nat):PI:=o d (.mv (.t n))
@[reducible] def mc(d:Nat)(n:Int):PI:=o d (.mv (ci n))
@[reducible] def mb(d:Nat)(x:Bool):PI:=o d (.mv (cb x))
@[reducible] def fd(d k n:Nat):PI:=o d (.fld k (.t n))
@[reducible] def bx(d n:Nat):PI:=o d (.box (.t n))
@[reducible] def lf(d k n:Nat):PI:=o d (.load (ki k) k false (.t n))
@[reducible] def ex(d x k:Nat):PI:=o d (.ext (.t x) k)
@[reducible] def gf(n:Nat)(x:PI):PI:=⟨x.dst,some (n,false),x.hide,x.op⟩
@[reducible] def so(l:List PI)(x:PC):PC:=.seq (.ops l) x
@[reducible] def ts(l:List Nat):List Arg:=l.map .t
@[reducible] def cl(f:Nat)(l:List Nat):PO:=.call f (ts l)
@[reducible] def sT(k a b:Nat):PI:=s (.store k (.t a) (.t b))
@[reducible] def pa(d c x:Nat):PI:=o d (.pick (.t c) (.t x) (cb false))
@[reducible] def po(d c x:Nat):PI:=o d (.pick (.t c) (cb true) (.t x))
@[reducible] def al(d k:Nat)(n:Int):PI:=o d (.alloc (rep k (vi n)))
@[reducible] def ap(d et es n x y:Nat):PI:=o d (.append et es n (.t x) (.t y))
end Go.Ev.Ab
namespace Go.Ev.L
open Go Go.Ev
def Cps{π σ:Type}(u:∀{α:Type},(σ->α)->(Nat->α)->α->π->σ->α):Prop :=
 ∀{α β:Type} (F:α->β) (k:σ->α) (e:Nat->α) (z:α) (p:π) (s:σ),F (u k e z p s)=u (λx=>F (k x)) (λt=>F (e t)) (F z) p s
@[reducible] noncomputable def foL{π σ:Type}(en:π->σ->St)(xs:Xs π σ)(p:π)(s:σ):Stp σ->Option (e8×St):=ec9 (λs'=>some (.normal,en p s')) (λt=>xOf xs p s t 1) none
structure Lo(π σ:Type) where
 E:Env
 k:Nat
 F:PFn
 at':List Nat
 kp:List Nat
 rt:RT
 al:List (Al2 π σ)
 st:π->σ->Stp σ
 xs:Xs π σ
 en:π->σ->St
namespace Lo
variable{π σ:Type}(L:Lo π σ)
noncomputable def lc:PC:=ag5 L.at' L.F.body
noncomputable def ls:St->DT (e8×St):=Dd9 ec8 L.k L.kp L.al L.st L.xs
noncomputable def lsM:St->DT (e8×St):=Dd9 be7 L.k L.kp L.al L.st L.xs
noncomputable def pr:(St->DT (e8×St))×PC:=(L.ls,.loop L.kp L.lc)
noncomputable def prM:(St->DT (e8×St))×PC:=(L.lsM,.loopM L.kp L.lc)
def Ok:Prop:=∀s,ka7 L.k L.F.res (L.pr.1 s) (S3 L.E L.k L.pr.2 s)
def OkE:Prop:=∀s,ea8 (L.pr.1 s) (S3 L.E L.k L.pr.2 s)
def OkM:Prop:=∀s,ea8 (L.prM.1 s) (S3 L.E L.k L.prM.2 s)
def Rd(hd:St->DT St)(bd:St->DT (e8×St))(p:π)(s:σ)(a:St)(b:Stp σ):Prop:=(Tb7 hd bd a).run=foL L.en L.xs p s b
def H0:Prop:=∀p s,L.Rd (ec8 L.k L.kp) (we7 L.E L.k L.F.res (vd0 L.rt L.lc)) p s (L.en p s) (L.st p s)
def H1:Prop:=∀p s,L.Rd (ec8 L.k L.kp) (Mc6 L.E L.k (gc6 L.rt L.lc)) p s (L.en p s) (L.st p s)
def H2:Prop:=∀p s,L.Rd (be7 L.k L.kp) (Mc6 L.E L.k (gc6 L.rt L.lc)) p s (L.en p s) (L.st p s)
def HA:Prop:=ab4 (λx=>∀a H,(⟨Ge5 x.sh a,Ge6 x.bl H⟩:St)=L.en (x.rd a H).1 (x.rd a H).2) L.al
variable{L}
theorem Rd.of {hd : St → DT St} {bd : St → DT (e8 × St)} {p : π} {s : σ} {a : St} (u : ∀ {α : Type}, (σ → α) → (Nat → α) → α → π → σ → α)
  (q:Cps @u) (H:(Tb7 hd bd a).run=u (λx=>foL L.en L.xs p s (.next x)) (λt=>foL L.en L.xs p s (.exit t)) (foL L.en L.xs p s .fail) p s):L.Rd hd bd p s a (u .next .exit .fail p s) :=
 H.trans (q (foL L.en L.xs p s) Stp.next Stp.exit Stp.fail p s).symm
theorem Rd.sel{hd:St->DT St}{bd:St->DT (e8×St)}{p:π}{s:σ}{a1 a0:St}{b1 b0:Stp σ}(c:Bool)(h1:L.Rd hd bd p s a1 b1)(h0:L.Rd hd bd p s a0 b0):L.Rd hd bd p s (sel c a1 a0) (sel c b1 b0):=by
 cases c with
 |true=>exact h1
 |false=>exact h0
theorem ok(l:List ((St->DT (e8×St))×PC))(hs:qc2 L.rt L.lc=l)(hl:ab4 (λx=>∀s,ka7 L.k L.F.res (x.1 s) (S3 L.E L.k x.2 s)) l)(hN:L.E.N=rounds+1)(ha:L.HA)(h:L.H0):L.Ok :=
 fc5.belowC (xe4 _ _ (by rw[hs];exact hl)) hN ⟨ha,h⟩
theorem okE(l:List ((St->DT (e8×St))×PC))(hs:qc2 L.rt L.lc=l)(hl:ab4 (λx=>∀s,ea8 (x.1 s) (S3 L.E L.k x.2 s)) l)(hN:L.E.N=rounds+1)(ha:L.HA)(h:L.H1):L.OkE :=
 fc5.belowML (Nd9 _ _ (by rw[hs];exact hl)) hN ⟨ha,h⟩
theorem okM(l:List ((St->DT (e8×St))×PC))(hs:qc2 L.rt L.lc=l)(hl:ab4 (λx=>∀s,ea8 (x.1 s) (S3 L.E L.k x.2 s)) l)(hN:L.E.N=rounds+1)(ha:L.HA)(h:L.H2):L.OkM :=
 fc5.belowM (Nd9 _ _ (by rw[hs];exact hl)) hN ⟨ha,h⟩
end Lo
theorem wa1 {E : Env} {F : PFn} {args : List b7} {blks : List b8} {o : Option (b7 × List b8)} (rt : RT) (l : List ((St → DT (e8 × St)) × PC)) (hs : qc2 rt F.body = l)
  (hl:ab4 (λx=>∀s,ka7 (len blks) F.res (x.1 s) (S3 E (len blks) x.2 s)) l) (h:(Pf7 E F (vd0 rt F.body) args blks).run=o) (r:b7×List b8) (hr:o=some r):(Ob3 E F args blks).run=some r :=
 oe9 (xe4 rt _ (by rw[hs];exact hl)) r (h.trans hr)
theorem Xe2 {E : Env} {F : PFn} {args : List b7} {blks : List b8} {o : Option (b7 × List b8)} (rt : RT) (l : List ((St → DT (e8 × St)) × PC)) (hs : qc2 rt F.body = l)
  (hl:ab4 (λx=>∀s,ea8 (x.1 s) (S3 E (len blks) x.2 s)) l) (h:(Bf1 E F (gc6 rt F.body) args blks).run=o) (r:b7×List b8) (hr:o=some r):(Ub1 E F args blks).run=some r :=
 be6 (Nd9 rt _ (by rw[hs];exact hl)) r (h.trans hr)
theorem v8{A o:Option (b7×List b8)}(h:A=o)(r:b7×List b8)(hr:o=some r):A=some r:=h.trans hr
noncomputable abbrev upq(x:St)(l:List (Nat×b7)):St:=⟨l.foldl (λa q=>a.set q.1 q.2) x.a,x.H⟩
noncomputable abbrev sIq:S2:=.s (.o (.int .i64))
noncomputable abbrev sUq:S2:=.s (.o .unk)
noncomputable abbrev sBq:S2:=.s (.o .bool)
noncomputable abbrev sPq(n:Nat):S2:=.s (.o (.ptr n 0 0 0))
noncomputable abbrev sTq(n:Nat):S2:=.s (.o (.tree n))
noncomputable abbrev sLq{α:Type}(t:Ty α):S2:=.s (.c t.es (nL t))
noncomputable abbrev kLq(n:Nat):List K:=List.replicate n (.o (.int .i64))
noncomputable abbrev aIq(a:List b7)(n:Nat):Int:=toI (slT a n)
noncomputable abbrev aBq(a:List b7)(n:Nat):Bool:=toB (slT a n)
noncomputable abbrev aNq(a:List b7)(n:Nat):Nat:=toN (slT a n)
noncomputable abbrev aGq(a:List b7)(n:Nat):Nat->List b7:=toG (slT a n)
noncomputable abbrev aLq{α:Type}(t:Ty α)(a:List b7)(n:Nat):List α:=rL t (slT a n)
noncomputable abbrev hIq(H:List b8)(m r n:Nat):Int:=toI (slT (rwT (elT H m) r) n)
noncomputable abbrev cIq(a:List b7)(m n:Nat):Int:=toI (slT (cellsOf (slT a m)) n)
noncomputable abbrev hLq{α:Type}(t:Ty α)(H:List b8)(m r n:Nat):List α:=rL t (slT (rwT (elT H m) r) n)
end Go.Ev.L
namespace Go.Ev.Ce
structure V3 where
 x:Int
 y:Int
 z:Int
structure Pln where
 n:V3
 b:Int
structure Pt where
 px:Int
 py:Int
 pz:Int
 pw:Int
def d9(a b:V3):V3:=⟨a.y*b.z-a.z*b.y,a.z*b.x-a.x*b.z,a.x*b.y-a.y*b.x⟩
def dot(a b:V3):Int:=a.x*b.x+a.y*b.y+a.z*b.z
def mw(p q r:Pln):Int:=dot p.n (d9 q.n r.n)
end Go.Ev.Ce
namespace Go.Ev.Ce
open Go Go.Ev Go.Ev.L Go.Proofs
@[reducible] noncomputable def prog:Program:=Tryz.prog
noncomputable def G:Nat->List Value:=λ_=>[]
noncomputable def En(l:List (Nat×Sum)):Env:={ P:=prog,G,fns:=λ_=>none,call:=Hf2 l,own:=λf j=>Bool.and (mb7 f [150,121,154,91,139,144,146,148]) (Nat.beq j 0),N:=18446744073709551616 }
@[reducible] def u:b7:=.v (.tuple #[])
theorem Wf3{l:List (Nat×Sum)}(h:i7 prog G l):∀f,g9 (En l).P (En l).G f ((En l).call f):=we6 h
theorem bd{l:List (Nat×Sum)}{f:FuncId}{R:Env->Sum}(b:qe7 prog f R)(h:i7 prog G l):g9 prog G f (R (En l)):=b rfl (Wf3 h)
noncomputable def tV:Ty V3 where
 es:=3
 row x:=[i x.x,i x.y,i x.z]
 rd r:=⟨toI (hdA r),toI (hdA (tlA r)),toI (hdA (tlA (tlA r)))⟩
 ok r:=Ja2 3 r
 cks:=List.replicate 3 (.int .i64)
 d:=⟨0,0,0⟩
 h0 _:=rfl
 h1 _:=rfl
 h2 _:=rfl
 h3 _ h:=.of (hb8 h)
 h4 _:=rfl
 h5 _:=rfl
noncomputable def r1V:R1 V3:=r1A tV 3 λ_ h=>h
noncomputable def tP:Ty Pln where
 es:=4
 row x:=[i x.n.x,i x.n.y,i x.n.z,i x.b]
 rd r:=⟨⟨toI (hdA r),toI (hdA (tlA r)),toI (hdA (tlA (tlA r)))⟩,toI (hdA (tlA (tlA (tlA r))))⟩
 ok r:=Ja2 4 r
 cks:=List.replicate 4 (.int .i64)
 d:=⟨⟨0,0,0⟩,0⟩
 h0 _:=rfl
 h1 _:=rfl
 h2 _:=rfl
 h3 _ h:=.of (hb8 h)
 h4 _:=rfl
 h5 _:=rfl
noncomputable def r1P:R1 Pln:=r1A tP 4 λ_ h=>h
noncomputable def tX:Ty Pt where
 es:=4
 row x:=[i x.px,i x.py,i x.pz,i x.pw]
 rd r:=⟨toI (hdA r),toI (hdA (tlA r)),toI (hdA (tlA (tlA r))),toI (hdA (tlA (tlA (tlA r))))⟩
 ok r:=Ja2 4 r
 cks:=List.replicate 4 (.int .i64)
 d:=⟨0,0,0,0⟩
 h0 _:=rfl
 h1 _:=rfl
 h2 _:=rfl
 h3 _ h:=.of (hb8 h)
 h4 _:=rfl
 h5 _:=rfl
noncomputable def r1X:R1 Pt:=r1A tX 4 λ_ h=>h
structure Tp where
 p:Pln
 q:Pln
 r:Pln
noncomputable def tY:Ty Tp where
 es:=12
 row x:=[i x.p.n.x,i x.p.n.y,i x.p.n.z,i x.p.b,i x.q.n.x,i x.q.n.y,i x.q.n.z,i x.q.b,i x.r.n.x,i x.r.n.y,i x.r.n.z,i x.r.b]
 rd r:=⟨⟨⟨toI (hdA r),toI (hdA (tlA r)),toI (hdA (tlA (tlA r)))⟩,toI (hdA (tlA (tlA (tlA r))))⟩,⟨⟨toI (hdA (tlA (tlA (tlA (tlA r))))),toI (hdA (tlA (tlA (tlA (tlA (tlA r)))))),toI (hdA (tlA (tlA (tlA (tlA (tlA (tlA r)))))))⟩,toI (hdA (tlA (tlA (tlA (tlA (tlA (tlA (tlA r))))))))⟩,⟨⟨toI (hdA (tlA (tlA (tlA (tlA (tlA (tlA (tlA (tlA r))))))))),toI (hdA (tlA (tlA (tlA (tlA (tlA (tlA (tlA (tlA (tlA r)))))))))),toI (hdA (tlA (tlA (tlA (tlA (tlA (tlA (tlA (tlA (tlA (tlA r)))))))))))⟩,toI (hdA (tlA (tlA (tlA (tlA (tlA (tlA (tlA (tlA (tlA (tlA (tlA r))))))))))))⟩⟩
 ok r:=Ja2 12 r
 cks:=List.replicate 12 (.int .i64)
 d:=⟨⟨⟨0,0,0⟩,0⟩,⟨⟨0,0,0⟩,0⟩,⟨⟨0,0,0⟩,0⟩⟩
 h0 _:=rfl
 h1 _:=rfl
 h2 _:=rfl
 h3 _ h:=.of (hb8 h)
 h4 _:=rfl
 h5 _:=rfl
structure Q2 where
 a:V3
 b:V3
set_option maxRecDepth 100000
noncomputable def be9:List (Nat×Sum):=[]
theorem Od0:i7 prog G be9:=trivial
noncomputable def Xa0(x:Pln)(y:Pt):Int:=(W ((W ((W ((W (x.b*y.pw))-(W (x.n.x*y.px))))-(W (x.n.y*y.py))))-(W (x.n.z*y.pz))))
noncomputable def Ub4:Sum:=oa3 (ia0 tP) (ia0 tX) (λx y=>.ret ((one r1I).enc (Xa0 x y),[]))
theorem gc7:g9 prog G 158 Ub4:=Ha8 (bd gg6 Od0) λx y=>v8 (by kernel_rfl)
noncomputable def qe8:List (Nat×Sum):=[]
theorem ce0:i7 prog G qe8:=trivial
noncomputable def yb5(x:V3)(y:V3):V3:=(⟨W (x.x+y.x),W (x.y+y.y),W (x.z+y.z)⟩:V3)
noncomputable def Ed9:Sum:=oa3 (ia0 tV) (ia0 tV) (λx y=>.ret ((one r1V).enc (yb5 x y),[]))
theorem qe9:g9 prog G 80 Ed9:=Ha8 (bd b80 ce0) λx y=>v8 (by kernel_rfl)
noncomputable def re0:List (Nat×Sum):=[]
theorem ce1:i7 prog G re0:=trivial
noncomputable def Ga4(x:V3)(y:V3):Int:=(W ((W ((W (x.x*y.x))+(W (x.y*y.y))))+(W (x.z*y.z))))
noncomputable def oc7:Sum:=oa3 (ia0 tV) (ia0 tV) (λx y=>.ret ((one r1I).enc (Ga4 x y),[]))
theorem wc6:g9 prog G 84 oc7:=Ha8 (bd b84 ce1) λx y=>v8 (by kernel_rfl)
noncomputable def Od1:List (Nat×Sum):=[]
theorem vd2:i7 prog G Od1:=trivial
noncomputable def ba1(x:V3)(y:V3):V3:=(⟨W ((W (x.y*y.z))-(W (x.z*y.y))),W ((W (x.z*y.x))-(W (x.x*y.z))),W ((W (x.x*y.y))-(W (x.y*y.x)))⟩:V3)
noncomputable def gc8:Sum:=oa3 (ia0 tV) (ia0 tV) (λx y=>.ret ((one r1V).enc (ba1 x y),[]))
theorem Ec5:g9 prog G 164 gc8:=Ha8 (bd hg3 vd2) λx y=>v8 (by kernel_rfl)
noncomputable def vd3:List (Nat×Sum):=[]
theorem id8:i7 prog G vd3:=trivial
noncomputable def Y1(x:V3)(y:Int):V3:=(⟨W (x.x*y),W (x.y*y),W (x.z*y)⟩:V3)
noncomputable def Ec6:Sum:=oa3 (ia0 tV) cI (λx y=>.ret ((one r1V).enc (Y1 x y),[]))
theorem vd4:g9 prog G 228 Ec6:=Ha8 (bd kg0 id8) λx y=>v8 (by kernel_rfl)
noncomputable def sc0:List (Nat×Sum):=[]
theorem id9:i7 prog G sc0:=trivial
structure Ja4 where
structure ga3 where
 (is0 is1:Int)
noncomputable def Zb1(p:Ja4)(s:ga3):St:=⟨i s.is0::i s.is1::ra 10 [],[]⟩
noncomputable def ya7{α:Type}(k:ga3->α)(e:Nat->α)(z:α)(p:Ja4)(s:ga3):α:=(sl (s.is1 != 0) (sl (s.is1==0) z (k ⟨s.is1,Int.tmod s.is0 s.is1⟩)) (e 1))
noncomputable def Da6(p:Ja4)(s:ga3):Stp ga3:=ya7 .next .exit .fail p s
noncomputable def Ab9:Lo Ja4 ga3:=⟨En sc0,0,Df4,[1,0,4,4],[0,1],.p,[⟨sIq::sIq::ru2 10 [],[],λa H=>(⟨⟩,⟨aIq a 0,aIq a 1⟩)⟩],Da6,[(some 0,λp s=>upq (Zb1 p s) [(5,i s.is1),(6,b (s.is1 != 0))])],Zb1⟩
theorem Wc8:Ab9.Ok:=Lo.ok [] (by kernel_rfl) .nil rfl (.cons (λa H=>by kernel_rfl) .nil) λp s=>(.of @ya7 (λF _ _ _ _ _=>by unfold ya7;(repeat' apply l6 (f:=F))<;>rfl) (by kernel_rfl))
noncomputable def ab6(x:Int)(y:Int):Option (b7×List b8):=let t1:=(lp (Da6 (⟨⟩:Ja4)) (⟨x,y⟩:ga3));(sl (Nat.beq t1.1 1) (some (i t1.2.is0,[])) none)
noncomputable def Y2(x:Int)(y:Int):Int:=N6 (one r1I) (ab6 x y)
noncomputable def Y3(x:Int)(y:Int):Bool:=okO (one r1I) (ab6 x y)
noncomputable def Ec7:Sum:=oa3 cI cI (λx y=>.guard (Y3 x y) (.ret ((one r1I).enc (Y2 x y),[])))
theorem vd5:g9 prog G 229 Ec7:=mb9 (bd kg1 id9) (one r1I) (o:=ab6) λx y=>wa1 (.s .p (.s (.b (.u Ab9.ls)) .p)) [Ab9.pr] (by kernel_rfl) (.cons Wc8 .nil) (by kernel_rfl)
noncomputable def ce2:List (Nat×Sum):=[(164,gc8),(84,oc7),(228,Ec6),(80,Ed9),(229,Ec7)]
theorem Od2:i7 prog G ce2:=⟨Ec5,wc6,vd4,qe9,vd5,trivial⟩
noncomputable def Bb0(x:Pln)(y:Pln)(z:Pln):Option (b7×List b8):=let t1:=(ba1 y.n z.n);let t2:=(Ga4 x.n t1);let t3:=(Y1 t1 x.b);let t4:=(ba1 z.n x.n);let t5:=(Y1 t4 y.b);let t6:=(yb5 t3 t5);let t7:=(ba1 x.n y.n);let t8:=(Y1 t7 z.b);let t9:=(yb5 t6 t8);let t10:=(Y1 t9 (-1));let t11:=(Y2 (if (W (0-t10.x))>t10.x then (W (0-t10.x)) else t10.x) (if (W (0-t10.y))>t10.y then (W (0-t10.y)) else t10.y));let t12:=(Y2 (if (W (0-t10.z))>t10.z then (W (0-t10.z)) else t10.z) (W (0-t2)));let t13:=(Y2 t11 t12);let t14:=(Y2 (if (W (0-t9.x))>t9.x then (W (0-t9.x)) else t9.x) (if (W (0-t9.y))>t9.y then (W (0-t9.y)) else t9.y));let t15:=(Y2 (if (W (0-t9.z))>t9.z then (W (0-t9.z)) else t9.z) t2);let t16:=(Y2 t14 t15);(sl (t2==0) (some (.tup [.agg [i 0,i 0,i 0,i 0],b false],[])) (sl (decide (t2<0)) (sl (Y3 (if (W (0-t10.x))>t10.x then (W (0-t10.x)) else t10.x) (if (W (0-t10.y))>t10.y then (W (0-t10.y)) else t10.y)) (sl (Y3 (if (W (0-t10.z))>t10.z then (W (0-t10.z)) else t10.z) (W (0-t2))) (sl (Y3 t11 t12) (sl (t13==0) none (sl (t13==0) none (sl (t13==0) none (sl (t13==0) none (some (.tup [.agg [i (W (Int.tdiv t10.x t13)),i (W (Int.tdiv t10.y t13)),i (W (Int.tdiv t10.z t13)),i (W (Int.tdiv (W (0-t2)) t13))],b true],[])))))) none) none) none) (sl (Y3 (if (W (0-t9.x))>t9.x then (W (0-t9.x)) else t9.x) (if (W (0-t9.y))>t9.y then (W (0-t9.y)) else t9.y)) (sl (Y3 (if (W (0-t9.z))>t9.z then (W (0-t9.z)) else t9.z) t2) (sl (Y3 t14 t15) (sl (t16==0) none (sl (t16==0) none (sl (t16==0) none (sl (t16==0) none (some (.tup [.agg [i (W (Int.tdiv t9.x t16)),i (W (Int.tdiv t9.y t16)),i (W (Int.tdiv t9.z t16)),i (W (Int.tdiv t2 t16))],b true],[])))))) none) none) none)))
noncomputable def Bb1(x:Pln)(y:Pln)(z:Pln):Pt×Bool:=N6 (two r1X r1B) (Bb0 x y z)
noncomputable def Bb2(x:Pln)(y:Pln)(z:Pln):Bool:=okO (two r1X r1B) (Bb0 x y z)
noncomputable def jd0:Sum:=Wc7 (ia0 tP) (ia0 tP) (ia0 tP) (λx y z=>.guard (Bb2 x y z) (.ret ((two r1X r1B).enc (Bb1 x y z),[])))
theorem ce3:g9 prog G 209 jd0:=Se4 (bd jg5 Od2) (two r1X r1B) (o:=Bb0) λx y z=>v8 (by kernel_rfl)
noncomputable def Fd0:List (Nat×Sum):=[(158,Ub4)]
theorem re1:i7 prog G Fd0:=⟨gc7,trivial⟩
structure Bb3 where
 b9:List Pln
 (f7 d8 f8 i9:Int)
structure Ca1 where
 is5:Int
noncomputable def Tc2(p:Bb3)(s:Ca1):St:=⟨eL tP p.b9::.unk::.unk::.ptr 0 0 0 0::.unk::i s.is5::ra 13 [],[⟨0,4,[[i p.f7,i p.d8,i p.f8,i p.i9]],true,false,0⟩]⟩
noncomputable def ab7{α:Type}(k:Ca1->α)(e:Nat->α)(z:α)(p:Bb3)(s:Ca1):α:=let t1:=(Xa0 (gL tP p.b9 s.is5.toNat) (⟨p.f7,p.d8,p.f8,p.i9⟩:Pt));(sl (decide (s.is5<(↑(List.length p.b9):Int))) (sl (inB s.is5 (List.length p.b9)) (sl (decide (t1<0)) (e 1) (k ⟨W (s.is5+1)⟩)) z) (e 2))
noncomputable def nb1(p:Bb3)(s:Ca1):Stp Ca1:=ab7 .next .exit .fail p s
noncomputable def wc7:Lo Bb3 Ca1:=⟨En Fd0,0,Df1,[1,0,1,4,4],[0,3,5],.p,[⟨sLq tP::sUq::sUq::sPq 0::sUq::sIq::ru2 13 [],[⟨0,4,true,some [kLq 4]⟩],λa H=>(⟨aLq tP a 0,hIq H 0 0 0,hIq H 0 0 1,hIq H 0 0 2,hIq H 0 0 3⟩,⟨aIq a 5⟩)⟩],nb1,[(none,λp s=>⟨[b false],[]⟩),(some 0,λp s=>upq (Tc2 p s) [(6,i s.is5),(7,eL tP p.b9),(8,i (↑(List.length p.b9):Int)),(9,b (decide (s.is5<(↑(List.length p.b9):Int))))])],Tc2⟩
theorem ce4:wc7.Ok:=Lo.ok [] (by kernel_rfl) .nil rfl (.cons (λa H=>by kernel_rfl) .nil) λp s=>(.of @ab7 (λF _ _ _ _ _=>by unfold ab7;(repeat' apply l6 (f:=F))<;>rfl) (by kernel_rfl))
noncomputable def gc9(x:List Pln)(y:Pt):Option (b7×List b8):=let t1:=(lp (nb1 (⟨rt tP x,y.px,y.py,y.pz,y.pw⟩:Bb3)) (⟨0⟩:Ca1));(sl ((cnE tP x)&&true) (sl (Nat.beq t1.1 1) (some (b false,[])) (sl (Nat.beq t1.1 2) (some (b true,[])) none)) none)
noncomputable def Pb2(x:List Pln)(y:Pt):Bool:=N6 (one r1B) (gc9 x y)
noncomputable def Pb3(x:List Pln)(y:Pt):Bool:=okO (one r1B) (gc9 x y)
noncomputable def ce5:Sum:=oa3 (P0 tP) (ia0 tX) (λx y=>.guard (Pb3 x y) (.ret ((one r1B).enc (Pb2 x y),[])))
theorem Ie5:g9 prog G 210 ce5:=mb9 (bd jg6 re1) (one r1B) (o:=gc9) λx y=>wa1 (.s .p (.s (.s .p (.b (.u wc7.ls))) .p)) [wc7.pr] (by kernel_rfl) (.cons ce4 .nil) (by kernel_rfl)
noncomputable def Ec8:List (Nat×Sum):=[]
theorem vd6:i7 prog G Ec8:=trivial
structure Sa0 where
 U7:List Pt
 (f7 d8 f8 i9:Int)
structure fa1 where
 is5:Int
noncomputable def hc3(p:Sa0)(s:fa1):St:=⟨eL tX p.U7::.unk::.unk::.ptr 0 0 0 0::.unk::i s.is5::ra 12 [],[⟨0,4,[[i p.f7,i p.d8,i p.f8,i p.i9]],true,false,0⟩]⟩
noncomputable def Da7{α:Type}(k:fa1->α)(e:Nat->α)(z:α)(p:Sa0)(s:fa1):α:=(sl (decide (s.is5<(↑(List.length p.U7):Int))) (sl (inB s.is5 (List.length p.U7)) (sl (((gL tX p.U7 s.is5.toNat).px==p.f7)&&(((gL tX p.U7 s.is5.toNat).py==p.d8)&&(((gL tX p.U7 s.is5.toNat).pz==p.f8)&&(((gL tX p.U7 s.is5.toNat).pw==p.i9)&&true)))) (e 1) (k ⟨W (s.is5+1)⟩)) z) (e 2))
noncomputable def Ja5(p:Sa0)(s:fa1):Stp fa1:=Da7 .next .exit .fail p s
noncomputable def Lb1:Lo Sa0 fa1:=⟨En Ec8,0,Df2,[1,0,1,4,4],[0,3,5],.p,[⟨sLq tX::sUq::sUq::sPq 0::sUq::sIq::ru2 12 [],[⟨0,4,true,some [kLq 4]⟩],λa H=>(⟨aLq tX a 0,hIq H 0 0 0,hIq H 0 0 1,hIq H 0 0 2,hIq H 0 0 3⟩,⟨aIq a 5⟩)⟩],Ja5,[(none,λp s=>⟨[b true],[]⟩),(some 0,λp s=>upq (hc3 p s) [(6,i s.is5),(7,eL tX p.U7),(8,i (↑(List.length p.U7):Int)),(9,b (decide (s.is5<(↑(List.length p.U7):Int))))])],hc3⟩
theorem jd1:Lb1.Ok:=Lo.ok [] (by kernel_rfl) .nil rfl (.cons (λa H=>by kernel_rfl) .nil) λp s=>(.of @Da7 (λF _ _ _ _ _=>by unfold Da7;(repeat' apply l6 (f:=F))<;>rfl) (by kernel_rfl))
noncomputable def nb2(x:List Pt)(y:Pt):Option (b7×List b8):=let t1:=(lp (Ja5 (⟨rt tX x,y.px,y.py,y.pz,y.pw⟩:Sa0)) (⟨0⟩:fa1));(sl ((cnE tX x)&&true) (sl (Nat.beq t1.1 1) (some (b true,[])) (sl (Nat.beq t1.1 2) (some (b false,[])) none)) none)
noncomputable def Ya3(x:List Pt)(y:Pt):Bool:=N6 (one r1B) (nb2 x y)
noncomputable def Ya4(x:List Pt)(y:Pt):Bool:=okO (one r1B) (nb2 x y)
noncomputable def Tc3:Sum:=oa3 (P0 tX) (ia0 tX) (λx y=>.guard (Ya4 x y) (.ret ((one r1B).enc (Ya3 x y),[])))
theorem Od3:g9 prog G 211 Tc3:=mb9 (bd jg7 vd6) (one r1B) (o:=nb2) λx y=>wa1 (.s .p (.s (.s .p (.b (.u Lb1.ls))) .p)) [Lb1.pr] (by kernel_rfl) (.cons jd1 .nil) (by kernel_rfl)
noncomputable def ab8:List (Nat×Sum):=[(209,jd0),(210,ce5),(211,Tc3)]
theorem Wc9:i7 prog G ab8:=⟨ce3,Ie5,Od3,trivial⟩
structure T2 where
 b9:List Pln
 (is4 is5:Int)
structure w6 where
 ph:Nat
 is6:Int
 ns3:Nat
 eh0:List (List b7)
noncomputable def Ib2(p:T2)(s:w6):St:=⟨eL tP p.b9::.unk::.unk::.v (.slice none 0 0)::i p.is4::i p.is5::i s.is6::ra 57 [],[]⟩
noncomputable def Ib3(p:T2)(s:w6):St:=⟨eL tP p.b9::.unk::.unk::.sl 0 0 s.ns3 0::i p.is4::i p.is5::i s.is6::ra 57 [],[⟨136,4,s.eh0,true,false,0⟩]⟩
noncomputable def Mc7(p:T2)(s:w6):St:=(sel (Nat.beq s.ph 1) (Ib3 p s) (Ib2 p s))
noncomputable def Y4{α:Type}(k:w6->α)(e:Nat->α)(z:α)(p:T2)(s:w6):α:=let t1:=(Bb1 (gL tP p.b9 p.is4.toNat) (gL tP p.b9 p.is5.toNat) (gL tP p.b9 s.is6.toNat));let t2:=(Pb2 (rt tP p.b9) t1.1);let t3:=(Ya3 [] t1.1);(sl (decide (s.is6<(↑(List.length p.b9):Int))) (sl (inB p.is4 (List.length p.b9)) (sl (inB p.is5 (List.length p.b9)) (sl (inB s.is6 (List.length p.b9)) (sl (Bb2 (gL tP p.b9 p.is4.toNat) (gL tP p.b9 p.is5.toNat) (gL tP p.b9 s.is6.toNat)) (sl t1.2 (sl (okE tP p.b9) (sl (Pb3 (rt tP p.b9) t1.1) (sl t2 (sl (Ya4 [] t1.1) (sl (!t3) (k ⟨1,W (s.is6+1),1,[[i t1.1.px,i t1.1.py,i t1.1.pz,i t1.1.pw]]⟩) (k ⟨0,W (s.is6+1),0,[]⟩)) z) (k ⟨0,W (s.is6+1),0,[]⟩)) z) z) (k ⟨0,W (s.is6+1),0,[]⟩)) z) z) z) z) (e 1))
noncomputable def Y5{α:Type}(k:w6->α)(e:Nat->α)(z:α)(p:T2)(s:w6):α:=let t1:=(Bb1 (gL tP p.b9 p.is4.toNat) (gL tP p.b9 p.is5.toNat) (gL tP p.b9 s.is6.toNat));let t2:=(Pb2 (rt tP p.b9) t1.1);let t3:=(Ya3 (slR tX s.eh0 0 s.ns3) t1.1);(sl (decide (s.is6<(↑(List.length p.b9):Int))) (sl (inB p.is4 (List.length p.b9)) (sl (inB p.is5 (List.length p.b9)) (sl (inB s.is6 (List.length p.b9)) (sl (Bb2 (gL tP p.b9 p.is4.toNat) (gL tP p.b9 p.is5.toNat) (gL tP p.b9 s.is6.toNat)) (sl t1.2 (sl (okE tP p.b9) (sl (Pb3 (rt tP p.b9) t1.1) (sl t2 (sl (okS tX s.eh0 0 s.ns3) (sl (Ya4 (slR tX s.eh0 0 s.ns3) t1.1) (sl (!t3) (sl (Nat.beq s.ns3 (len s.eh0)&&Nat.ble ((s.ns3+1)*32) room) (k ⟨1,W (s.is6+1),s.ns3+1,app s.eh0 [[i t1.1.px,i t1.1.py,i t1.1.pz,i t1.1.pw]]⟩) z) (k ⟨1,W (s.is6+1),s.ns3,s.eh0⟩)) z) z) (k ⟨1,W (s.is6+1),s.ns3,s.eh0⟩)) z) z) (k ⟨1,W (s.is6+1),s.ns3,s.eh0⟩)) z) z) z) z) (e 2))
noncomputable def V2(p:T2)(s:w6):Stp w6:=(sel (Nat.beq s.ph 1) (Y5 .next .exit .fail p s) (Y4 .next .exit .fail p s))
noncomputable def rb7:Lo T2 w6:=⟨En ab8,0,ye3,[1,1,0,1,4,4,1,0,4,1,4,4,1,0,4,1,4,4],[0,3,4,5,6],.p,[⟨sLq tP::sUq::sUq::.s (.o .nil)::sIq::sIq::sIq::ru2 57 [],[],λa H=>(⟨aLq tP a 0,aIq a 4,aIq a 5⟩,⟨0,aIq a 6,0,[]⟩)⟩,⟨sLq tP::sUq::sUq::.s (.o (.sl 0 0 (some 0) none))::sIq::sIq::sIq::ru2 57 [],[⟨136,4,true,none⟩],λa H=>(⟨aLq tP a 0,aIq a 4,aIq a 5⟩,⟨1,aIq a 6,slN (slT a 3),elT H 0⟩)⟩],V2,[(some 4,λp s=>upq (Ib2 p s) [(25,i s.is6),(26,eL tP p.b9),(27,i (↑(List.length p.b9):Int)),(28,b (decide (s.is6<(↑(List.length p.b9):Int))))]),(some 4,λp s=>upq (Ib3 p s) [(25,i s.is6),(26,eL tP p.b9),(27,i (↑(List.length p.b9):Int)),(28,b (decide (s.is6<(↑(List.length p.b9):Int))))])],Mc7⟩
theorem Mc8:rb7.Ok:=Lo.ok [] (by kernel_rfl) .nil rfl (.cons (λa H=>by kernel_rfl) (.cons (λa H=>by kernel_rfl) .nil)) λp s=>(.sel (Nat.beq s.ph 1) (.of @Y5 (λF _ _ _ _ _=>by unfold Y5;(repeat' apply l6 (f:=F))<;>rfl) (by kernel_rfl)) (.of @Y4 (λF _ _ _ _ _=>by unfold Y4;(repeat' apply l6 (f:=F))<;>rfl) (by kernel_rfl)))
structure T3 where
 is4:Int
structure y8 where
 ph:Nat
 b9:List Pln
 is5:Int
 ns3:Nat
 eh0:List (List b7)
noncomputable def Ib4(p:T3)(s:y8):St:=⟨eL tP s.b9::.unk::.unk::.v (.slice none 0 0)::i p.is4::i s.is5::ra 58 [],[]⟩
noncomputable def Ib5(p:T3)(s:y8):St:=⟨eL tP s.b9::.unk::.unk::.sl 0 0 s.ns3 0::i p.is4::i s.is5::ra 58 [],[⟨136,4,s.eh0,true,false,0⟩]⟩
noncomputable def Mc9(p:T3)(s:y8):St:=(sel (Nat.beq s.ph 1) (Ib5 p s) (Ib4 p s))
noncomputable def Y6{α:Type}(k:y8->α)(e:Nat->α)(z:α)(p:T3)(s:y8):α:=let t1:=(lp (V2 (⟨rt tP s.b9,p.is4,s.is5⟩:T2)) (⟨0,W (s.is5+1),0,[]⟩:w6));(sl (decide (s.is5<(↑(List.length s.b9):Int))) (sl ((cnE tP s.b9)&&true) (sl (Nat.beq t1.1 1) (k ⟨0,rt tP s.b9,W (s.is5+1),0,[]⟩) (sl (Nat.beq t1.1 2) (k ⟨1,rt tP s.b9,W (s.is5+1),t1.2.ns3,t1.2.eh0⟩) z)) z) (e 1))
noncomputable def Y7{α:Type}(k:y8->α)(e:Nat->α)(z:α)(p:T3)(s:y8):α:=let t1:=(lp (V2 (⟨rt tP s.b9,p.is4,s.is5⟩:T2)) (⟨1,W (s.is5+1),s.ns3,s.eh0⟩:w6));(sl (decide (s.is5<(↑(List.length s.b9):Int))) (sl ((cnE tP s.b9)&&true) (sl (Nat.beq t1.1 1) (k ⟨0,rt tP s.b9,W (s.is5+1),0,[]⟩) (sl (Nat.beq t1.1 2) (k ⟨1,rt tP s.b9,W (s.is5+1),t1.2.ns3,t1.2.eh0⟩) z)) z) (e 2))
noncomputable def P1(p:T3)(s:y8):Stp y8:=(sel (Nat.beq s.ph 1) (Y7 .next .exit .fail p s) (Y6 .next .exit .fail p s))
noncomputable def rb8:Lo T3 y8:=⟨En ab8,0,ye3,[1,1,0,1,4,4,1,0,4,1,4,4],[0,3,4,5],.s .p (.s (.b (.s .p (.b (.u rb7.ls)))) .p),[⟨sLq tP::sUq::sUq::.s (.o .nil)::sIq::sIq::ru2 58 [],[],λa H=>(⟨aIq a 4⟩,⟨0,aLq tP a 0,aIq a 5,0,[]⟩)⟩,⟨sLq tP::sUq::sUq::.s (.o (.sl 0 0 (some 0) none))::sIq::sIq::ru2 58 [],[⟨136,4,true,none⟩],λa H=>(⟨aIq a 4⟩,⟨1,aLq tP a 0,aIq a 5,slN (slT a 3),elT H 0⟩)⟩],P1,[(some 2,λp s=>upq (Ib4 p s) [(17,i s.is5),(18,eL tP s.b9),(19,i (↑(List.length s.b9):Int)),(20,b (decide (s.is5<(↑(List.length s.b9):Int))))]),(some 2,λp s=>upq (Ib5 p s) [(17,i s.is5),(18,eL tP s.b9),(19,i (↑(List.length s.b9):Int)),(20,b (decide (s.is5<(↑(List.length s.b9):Int))))])],Mc9⟩
theorem Nc0:rb8.Ok:=Lo.ok [rb7.pr] (by kernel_rfl) (.cons Mc8 .nil) rfl (.cons (λa H=>by kernel_rfl) (.cons (λa H=>by kernel_rfl) .nil)) λp s=>(.sel (Nat.beq s.ph 1) (.of @Y7 (λF _ _ _ _ _=>by unfold Y7;(repeat' apply l6 (f:=F))<;>rfl) (by kernel_rfl)) (.of @Y6 (λF _ _ _ _ _=>by unfold Y6;(repeat' apply l6 (f:=F))<;>rfl) (by kernel_rfl)))
structure ba2 where
structure D4 where
 ph:Nat
 b9:List Pln
 is4:Int
 ns3:Nat
 eh0:List (List b7)
noncomputable def Ib6(p:ba2)(s:D4):St:=⟨eL tP s.b9::.unk::.unk::.v (.slice none 0 0)::i s.is4::ra 59 [],[]⟩
noncomputable def Ib7(p:ba2)(s:D4):St:=⟨eL tP s.b9::.unk::.unk::.sl 0 0 s.ns3 0::i s.is4::ra 59 [],[⟨136,4,s.eh0,true,false,0⟩]⟩
noncomputable def Nc1(p:ba2)(s:D4):St:=(sel (Nat.beq s.ph 1) (Ib7 p s) (Ib6 p s))
noncomputable def Y8{α:Type}(k:D4->α)(e:Nat->α)(z:α)(p:ba2)(s:D4):α:=let t1:=(lp (P1 (⟨s.is4⟩:T3)) (⟨0,rt tP s.b9,W (s.is4+1),0,[]⟩:y8));(sl (decide (s.is4<(↑(List.length s.b9):Int))) (sl ((cnE tP s.b9)&&true) (sl (Nat.beq t1.1 1) (k ⟨0,t1.2.b9,W (s.is4+1),0,[]⟩) (sl (Nat.beq t1.1 2) (k ⟨1,t1.2.b9,W (s.is4+1),t1.2.ns3,t1.2.eh0⟩) z)) z) (e 1))
noncomputable def Y9{α:Type}(k:D4->α)(e:Nat->α)(z:α)(p:ba2)(s:D4):α:=let t1:=(lp (P1 (⟨s.is4⟩:T3)) (⟨1,rt tP s.b9,W (s.is4+1),s.ns3,s.eh0⟩:y8));(sl (decide (s.is4<(↑(List.length s.b9):Int))) (sl ((cnE tP s.b9)&&true) (sl (Nat.beq t1.1 1) (k ⟨0,t1.2.b9,W (s.is4+1),0,[]⟩) (sl (Nat.beq t1.1 2) (k ⟨1,t1.2.b9,W (s.is4+1),t1.2.ns3,t1.2.eh0⟩) z)) z) (e 2))
noncomputable def V4(p:ba2)(s:D4):Stp D4:=(sel (Nat.beq s.ph 1) (Y9 .next .exit .fail p s) (Y8 .next .exit .fail p s))
noncomputable def rb9:Lo ba2 D4:=⟨En ab8,0,ye3,[1,1,0,1,4,4],[0,3,4],.s .p (.s (.b (.s .p (.b (.u rb8.ls)))) .p),[⟨sLq tP::sUq::sUq::.s (.o .nil)::sIq::ru2 59 [],[],λa H=>(⟨⟩,⟨0,aLq tP a 0,aIq a 4,0,[]⟩)⟩,⟨sLq tP::sUq::sUq::.s (.o (.sl 0 0 (some 0) none))::sIq::ru2 59 [],[⟨136,4,true,none⟩],λa H=>(⟨⟩,⟨1,aLq tP a 0,aIq a 4,slN (slT a 3),elT H 0⟩)⟩],V4,[(some 0,λp s=>upq (Ib6 p s) [(9,i s.is4),(10,eL tP s.b9),(11,i (↑(List.length s.b9):Int)),(12,b (decide (s.is4<(↑(List.length s.b9):Int))))]),(some 0,λp s=>upq (Ib7 p s) [(9,i s.is4),(10,eL tP s.b9),(11,i (↑(List.length s.b9):Int)),(12,b (decide (s.is4<(↑(List.length s.b9):Int))))])],Nc1⟩
theorem Nc2:rb9.Ok:=Lo.ok [rb8.pr] (by kernel_rfl) (.cons Nc0 .nil) rfl (.cons (λa H=>by kernel_rfl) (.cons (λa H=>by kernel_rfl) .nil)) λp s=>(.sel (Nat.beq s.ph 1) (.of @Y9 (λF _ _ _ _ _=>by unfold Y9;(repeat' apply l6 (f:=F))<;>rfl) (by kernel_rfl)) (.of @Y8 (λF _ _ _ _ _=>by unfold Y8;(repeat' apply l6 (f:=F))<;>rfl) (by kernel_rfl)))
noncomputable def Sa1(x:List Pln):Option (b7×List b8):=let t1:=(lp (V4 (⟨⟩:ba2)) (⟨0,rt tP x,0,0,[]⟩:D4));(sl ((cnE tP x)&&true) (sl (Nat.beq t1.1 1) (some (.v (.slice none 0 0),[])) (sl (Nat.beq t1.1 2) (some (.sl 0 0 t1.2.ns3 0,[⟨136,4,t1.2.eh0,true,false,0⟩])) none)) none)
noncomputable def Sa2(x:List Pln):List Pt:=N6 (one (r1L tX)) (Sa1 x)
noncomputable def Sa3(x:List Pln):Bool:=okO (one (r1L tX)) (Sa1 x)
noncomputable def Lb2:Sum:=Y0 (P0 tP) (λx=>.guard (Sa3 x) (.ret ((one (r1L tX)).enc (Sa2 x),[])))
theorem hc5:g9 prog G 181 Lb2:=Ja3 (bd ig3 Wc9) (one (r1L tX)) (o:=Sa1) λx=>wa1 (.s .p (.s .p (.s (.s .p (.b (.u rb9.ls))) .p))) [rb9.pr] (by kernel_rfl) (.cons Nc2 .nil) (by kernel_rfl)
noncomputable def Ib8:List (Nat×Sum):=[]
theorem wc8:i7 prog G Ib8:=trivial
@[reducible] noncomputable def Na9:Sum:=Ob3 (En Ib8) Cf5
theorem ab9:g9 prog G 191 Na9:=bd ig8 wc8
noncomputable def Xc0:List (Nat×Sum):=[]
theorem Nc3:i7 prog G Xc0:=trivial
noncomputable def Ja6(x:Int):Option (b7×List b8):=(sl (decide (x<0)) (some (i (W (0-x)),[])) (some (i x,[])))
noncomputable def ya8(x:Int):Int:=N6 (one r1I) (Ja6 x)
noncomputable def ya9(x:Int):Bool:=okO (one r1I) (Ja6 x)
noncomputable def hc6:Sum:=Y0 cI (λx=>.guard (ya9 x) (.ret ((one r1I).enc (ya8 x),[])))
theorem Xc1:g9 prog G 184 hc6:=Ja3 (bd ig6 Nc3) (one r1I) (o:=Ja6) λx=>v8 (by kernel_rfl)
noncomputable def Tc4:List (Nat×Sum):=[(184,hc6),(191,Na9)]
theorem Od4:i7 prog G Tc4:=⟨Xc1,ab9,trivial⟩
structure ta6 where
 (is6 f7 d8 f8 fb4 fb5 fb6:Int)
structure Z0 where
 (is5 is7:Int)
noncomputable def sc1(p:ta6)(s:Z0):St:=⟨.unk::.ptr 0 0 0 0::.ptr 1 0 0 0::.unk::.ptr 2 0 0 0::i s.is5::i p.is6::i s.is7::ra 38 [],[⟨0,3,[[i p.f7,i p.d8,i p.f8]],true,false,0⟩,⟨0,3,[[i 0,i 0,i 0]],true,false,0⟩,⟨0,3,[[i p.fb4,i p.fb5,i p.fb6]],true,false,0⟩]⟩
noncomputable def Ja7{α:Type}(k:Z0->α)(e:Nat->α)(z:α)(p:ta6)(s:Z0):α:=(sl (decide (s.is7>0)) (sl (s.is7==0) z (k ⟨s.is7,Int.tmod s.is5 s.is7⟩)) (e 1))
noncomputable def na4(p:ta6)(s:Z0):Stp Z0:=Ja7 .next .exit .fail p s
noncomputable def Ub5:Lo ta6 Z0:=⟨En Tc4,0,Cf1,[1,1,1,0,1,4,4,1,0,4,1,1,4,4],[1,2,4,5,6,7],.p,[⟨sUq::sPq 0::sPq 1::sUq::sPq 2::sIq::sIq::sIq::ru2 38 [],[⟨0,3,true,some [kLq 3]⟩,⟨0,3,true,some [[.o (.lit .i64 0),.o (.lit .i64 0),.o (.lit .i64 0)]]⟩,⟨0,3,true,some [kLq 3]⟩],λa H=>(⟨aIq a 6,hIq H 0 0 0,hIq H 0 0 1,hIq H 0 0 2,hIq H 2 0 0,hIq H 2 0 1,hIq H 2 0 2⟩,⟨aIq a 5,aIq a 7⟩)⟩],na4,[(some 2,λp s=>upq (sc1 p s) [(23,i s.is7),(24,b (decide (s.is7>0)))])],sc1⟩
theorem vd7:Ub5.Ok:=Lo.ok [] (by kernel_rfl) .nil rfl (.cons (λa H=>by kernel_rfl) .nil) λp s=>(.of @Ja7 (λF _ _ _ _ _=>by unfold Ja7;(repeat' apply l6 (f:=F))<;>rfl) (by kernel_rfl))
noncomputable def Bb4(x:V3):Option (b7×List b8):=let t1:=(ya8 x.x);let t2:=(lp (na4 (⟨0,x.x,x.y,x.z,x.x,x.y,x.z⟩:ta6)) (⟨0,t1⟩:Z0));let t3:=(ya8 x.y);let t4:=(lp (na4 (⟨1,x.x,x.y,x.z,x.x,x.y,x.z⟩:ta6)) (⟨t2.2.is5,t3⟩:Z0));let t5:=(ya8 x.z);let t6:=(lp (na4 (⟨2,x.x,x.y,x.z,x.x,x.y,x.z⟩:ta6)) (⟨t4.2.is5,t5⟩:Z0));(sl (x.x==(-9223372036854775808)) (some (.tup [.agg [i 0,i 0,i 0],i 0],[])) (sl (ya9 x.x) (sl (Nat.beq t2.1 1) (sl (x.y==(-9223372036854775808)) (some (.tup [.agg [i 0,i 0,i 0],i 0],[])) (sl (ya9 x.y) (sl (Nat.beq t4.1 1) (sl (x.z==(-9223372036854775808)) (some (.tup [.agg [i 0,i 0,i 0],i 0],[])) (sl (ya9 x.z) (sl (Nat.beq t6.1 1) (sl (t6.2.is5==0) (some (.tup [.agg [i 0,i 0,i 0],i 0],[])) (sl (t6.2.is5==0) none (sl (t6.2.is5==0) none (sl (t6.2.is5==0) none (some (.tup [.agg [i (W (Int.tdiv x.x t6.2.is5)),i (W (Int.tdiv x.y t6.2.is5)),i (W (Int.tdiv x.z t6.2.is5))],i t6.2.is5],[])))))) none) none)) none) none)) none) none))
noncomputable def Xa1(x:V3):V3×Int:=N6 (two r1V r1I) (Bb4 x)
noncomputable def Bb5(x:V3):Bool:=okO (two r1V r1I) (Bb4 x)
noncomputable def wc9:Sum:=Y0 (ia0 tV) (λx=>.guard (Bb5 x) (.ret ((two r1V r1I).enc (Xa1 x),[])))
theorem Tc5:g9 prog G 163 wc9:=Ja3 (bd gg9 Od4) (two r1V r1I) (o:=Bb4) λx=>wa1 (.s .p (.s .p (.s .p (.s (.s .p (.b (.l (.s .p (.s (.b (.s .p (.s .p (.b (.u Ub5.ls))))) .p))))) .p)))) [Ub5.pr] (by kernel_rfl) (.cons vd7 .nil) (by kernel_rfl)
noncomputable def Od5:List (Nat×Sum):=[(163,wc9),(191,Na9)]
theorem vd8:i7 prog G Od5:=⟨Tc5,ab9,trivial⟩
noncomputable def nb3(x:Pln):Option (b7×List b8):=let t1:=(Xa1 x.n);(sl (decide (x.n.x<(-4608))) (some (b false,[])) (sl (decide (x.n.x>4608)) (some (b false,[])) (sl (decide (x.n.y<(-4608))) (some (b false,[])) (sl (decide (x.n.y>4608)) (some (b false,[])) (sl (decide (x.n.z<(-4608))) (some (b false,[])) (sl (decide (x.n.z>4608)) (some (b false,[])) (sl (Bb5 x.n) (sl (t1.2==1) (sl (decide (x.b>=(-2097152))) (some (b (decide (x.b<=2097152)),[])) (some (b false,[]))) (some (b false,[]))) none)))))))
noncomputable def nb4(x:Pln):Bool:=N6 (one r1B) (nb3 x)
noncomputable def nb5(x:Pln):Bool:=okO (one r1B) (nb3 x)
noncomputable def hc7:Sum:=Y0 (ia0 tP) (λx=>.guard (nb5 x) (.ret ((one r1B).enc (nb4 x),[])))
theorem Ec9:g9 prog G 156 hc7:=Ja3 (bd gg4 vd8) (one r1B) (o:=nb3) λx=>v8 (by kernel_rfl)
noncomputable def Fc0:List (Nat×Sum):=[(156,hc7)]
theorem vd9:i7 prog G Fc0:=⟨Ec9,trivial⟩
structure Sa4 where
 b9:List Pln
structure fa2 where
 is3:Int
noncomputable def hc8(p:Sa4)(s:fa2):St:=⟨eL tP p.b9::.unk::.unk::i s.is3::ra 15 [],[]⟩
noncomputable def Da8{α:Type}(k:fa2->α)(e:Nat->α)(z:α)(p:Sa4)(s:fa2):α:=let t1:=(nb4 (gL tP p.b9 s.is3.toNat));(sl (decide (s.is3<(↑(List.length p.b9):Int))) (sl (inB s.is3 (List.length p.b9)) (sl (nb5 (gL tP p.b9 s.is3.toNat)) (sl (!t1) (e 1) (k ⟨W (s.is3+1)⟩)) z) z) (e 2))
noncomputable def Ja8(p:Sa4)(s:fa2):Stp fa2:=Da8 .next .exit .fail p s
noncomputable def Lb3:Lo Sa4 fa2:=⟨En Fc0,0,Bf2,[1,1,0,1,4,4],[0,3],.p,[⟨sLq tP::sUq::sUq::sIq::ru2 15 [],[],λa H=>(⟨aLq tP a 0⟩,⟨aIq a 3⟩)⟩],Ja8,[(none,λp s=>⟨[i 12],[]⟩),(some 0,λp s=>upq (hc8 p s) [(7,i s.is3),(8,eL tP p.b9),(9,i (↑(List.length p.b9):Int)),(10,b (decide (s.is3<(↑(List.length p.b9):Int))))])],hc8⟩
theorem jd2:Lb3.Ok:=Lo.ok [] (by kernel_rfl) .nil rfl (.cons (λa H=>by kernel_rfl) .nil) λp s=>(.of @Da8 (λF _ _ _ _ _=>by unfold Da8;(repeat' apply l6 (f:=F))<;>rfl) (by kernel_rfl))
noncomputable def nb6(x:List Pln):Option (b7×List b8):=let t1:=(lp (Ja8 (⟨rt tP x⟩:Sa4)) (⟨0⟩:fa2));(sl (decide ((↑(List.length x):Int)>48)) (some (i 2,[])) (sl ((cnE tP x)&&true) (sl (Nat.beq t1.1 1) (some (i 12,[])) (sl (Nat.beq t1.1 2) (some (i 0,[])) none)) none))
noncomputable def nb7(x:List Pln):Int:=N6 (one r1I) (nb6 x)
noncomputable def nb8(x:List Pln):Bool:=okO (one r1I) (nb6 x)
noncomputable def hc9:Sum:=Y0 (P0 tP) (λx=>.guard (nb8 x) (.ret ((one r1I).enc (nb7 x),[])))
theorem Fc1:g9 prog G 100 hc9:=Ja3 (bd dg5 vd9) (one r1I) (o:=nb6) λx=>wa1 (.s .p (.s .p (.s (.s .p (.b (.u Lb3.ls))) .p))) [Lb3.pr] (by kernel_rfl) (.cons jd2 .nil) (by kernel_rfl)
noncomputable def re2:List (Nat×Sum):=[]
theorem ce6:i7 prog G re2:=trivial
noncomputable def oc8(x:V3)(y:V3):Option (b7×List b8):=(some (.sl 0 0 6 0,[⟨73,4,[[i 1,i 0,i 0,i y.x],[i (-1),i 0,i 0,i (W (0-x.x))],[i 0,i 1,i 0,i y.y],[i 0,i (-1),i 0,i (W (0-x.y))],[i 0,i 0,i 1,i y.z],[i 0,i 0,i (-1),i (W (0-x.z))]],true,false,0⟩]))
noncomputable def Pb4(x:V3)(y:V3):List Pln:=N6 (one (r1L tP)) (oc8 x y)
noncomputable def yb6(x:V3)(y:V3):Bool:=okO (one (r1L tP)) (oc8 x y)
noncomputable def Nc4:Sum:=oa3 (ia0 tV) (ia0 tV) (λx y=>.guard (yb6 x y) (.ret ((one (r1L tP)).enc (Pb4 x y),[])))
theorem jd3:g9 prog G 63 Nc4:=mb9 (bd b63 ce6) (one (r1L tP)) (o:=oc8) λx y=>v8 (by kernel_rfl)
noncomputable def re3:List (Nat×Sum):=[(63,Nc4)]
theorem ce7:i7 prog G re3:=⟨jd3,trivial⟩
noncomputable def Pb5(x:List Pln):Option (b7×List b8):=let t1:=(Pb4 (⟨-24,-24,-24⟩:V3) (⟨24,24,24⟩:V3));(sl (Nat.beq (len (o8 (λk=>(tP).row (gL tP x k)) (List.range (List.length x)))) 0) (sl (yb6 (⟨-24,-24,-24⟩:V3) (⟨24,24,24⟩:V3)) (sl (Nat.beq (len (o8 (λk=>(tP).row (gL tP t1 k)) (List.range (List.length t1)))) 0) (some (.sl 0 0 0 0,[⟨73,4,[],true,false,0⟩])) (sl (Nat.beq 0 0&&Nat.ble ((0+(len (o8 (λk=>(tP).row (gL tP t1 k)) (List.range (List.length t1)))))*32) room) (some ((.sl 0 0 (0+(len (o8 (λk=>(tP).row (gL tP t1 k)) (List.range (List.length t1))))) 0),[⟨73,4,(app [] (o8 (λk=>(tP).row (gL tP t1 k)) (List.range (List.length t1)))),true,false,0⟩])) none)) none) (sl (Nat.beq 0 0&&Nat.ble ((0+(len (o8 (λk=>(tP).row (gL tP x k)) (List.range (List.length x)))))*32) room) (sl (yb6 (⟨-24,-24,-24⟩:V3) (⟨24,24,24⟩:V3)) (sl (Nat.beq (len (o8 (λk=>(tP).row (gL tP t1 k)) (List.range (List.length t1)))) 0) (some ((.sl 0 0 (0+(len (o8 (λk=>(tP).row (gL tP x k)) (List.range (List.length x))))) 0),[⟨73,4,(app [] (o8 (λk=>(tP).row (gL tP x k)) (List.range (List.length x)))),true,false,0⟩])) (sl (Nat.beq (0+(len (o8 (λk=>(tP).row (gL tP x k)) (List.range (List.length x))))) (len (app [] (o8 (λk=>(tP).row (gL tP x k)) (List.range (List.length x)))))&&Nat.ble (((0+(len (o8 (λk=>(tP).row (gL tP x k)) (List.range (List.length x)))))+(len (o8 (λk=>(tP).row (gL tP t1 k)) (List.range (List.length t1)))))*32) room) (some ((.sl 0 0 ((0+(len (o8 (λk=>(tP).row (gL tP x k)) (List.range (List.length x)))))+(len (o8 (λk=>(tP).row (gL tP t1 k)) (List.range (List.length t1))))) 0),[⟨73,4,(app (app [] (o8 (λk=>(tP).row (gL tP x k)) (List.range (List.length x)))) (o8 (λk=>(tP).row (gL tP t1 k)) (List.range (List.length t1)))),true,false,0⟩])) none)) none) none))
noncomputable def Pb6(x:List Pln):List Pln:=N6 (one (r1L tP)) (Pb5 x)
noncomputable def Pb7(x:List Pln):Bool:=okO (one (r1L tP)) (Pb5 x)
noncomputable def Nc5:Sum:=Y0 (P0 tP) (λx=>.guard (Pb7 x) (.ret ((one (r1L tP)).enc (Pb6 x),[])))
theorem jd4:g9 prog G 124 Nc5:=Ja3 (bd fg0 ce7) (one (r1L tP)) (o:=Pb5) λx=>v8 (by kernel_rfl)
noncomputable def wd0:List (Nat×Sum):=[(100,hc9),(124,Nc5),(181,Lb2)]
theorem jd5:i7 prog G wd0:=⟨Fc1,jd4,hc5,trivial⟩
noncomputable def bb0(x:List Pln):Option (b7×List b8):=let t1:=(nb7 (rt tP x));let t2:=(Pb6 (rt tP x));let t3:=(Sa2 (rt tP t2));(sl (okE tP x) (sl (nb8 (rt tP x)) (sl (t1 != 0) (some (.v (.slice none 0 0),[])) (sl (okE tP x) (sl (Pb7 (rt tP x)) (sl (okE tP t2) (sl (Sa3 (rt tP t2)) (some (eL tX t3,[])) none) none) none) none)) none) none)
noncomputable def vb7(x:List Pln):List Pt:=N6 (one (r1L tX)) (bb0 x)
noncomputable def vb8(x:List Pln):Bool:=okO (one (r1L tX)) (bb0 x)
noncomputable def Fc2:Sum:=Y0 (P0 tP) (λx=>.guard (vb8 x) (.ret ((one (r1L tX)).enc (vb7 x),[])))
theorem wd1:g9 prog G 157 Fc2:=Ja3 (bd gg5 jd5) (one (r1L tX)) (o:=bb0) λx=>v8 (by kernel_rfl)
noncomputable def ic0:List (Nat×Sum):=[(181,Lb2),(158,Ub4)]
theorem Od6:i7 prog G ic0:=⟨hc5,gc7,trivial⟩
structure bb1 where
 b9:List Pln
 U8:List Pt
 is4:Int
structure ta7 where
 bs5:Bool
 is6:Int
noncomputable def sc2(p:bb1)(s:ta7):St:=⟨eL tP p.b9::.unk::.unk::eL tX p.U8::i p.is4::b s.bs5::i s.is6::ra 29 [],[]⟩
noncomputable def Ja9{α:Type}(k:ta7->α)(e:Nat->α)(z:α)(p:bb1)(s:ta7):α:=let t1:=(Xa0 (gL tP p.b9 p.is4.toNat) (gL tX p.U8 s.is6.toNat));(sl (decide (s.is6<(↑(List.length p.U8):Int))) (sl s.bs5 (k ⟨true,W (s.is6+1)⟩) (sl (inB p.is4 (List.length p.b9)) (sl (inB s.is6 (List.length p.U8)) (k ⟨decide (t1>0),W (s.is6+1)⟩) z) z)) (e 1))
noncomputable def Ga5(p:bb1)(s:ta7):Stp ta7:=Ja9 .next .exit .fail p s
noncomputable def Ub6:Lo bb1 ta7:=⟨En ic0,0,We5,[1,1,0,1,4,4,1,0,4,1,0,1,4,4],[0,3,4,5,6],.p,[⟨sLq tP::sUq::sUq::sLq tX::sIq::sBq::sIq::ru2 29 [],[],λa H=>(⟨aLq tP a 0,aLq tX a 3,aIq a 4⟩,⟨aBq a 5,aIq a 6⟩)⟩],Ga5,[(some 2,λp s=>upq (sc2 p s) [(15,i s.is6),(16,eL tX p.U8),(17,i (↑(List.length p.U8):Int)),(18,b (decide (s.is6<(↑(List.length p.U8):Int))))])],sc2⟩
theorem wd2:Ub6.Ok:=Lo.ok [] (by kernel_rfl) .nil rfl (.cons (λa H=>by kernel_rfl) .nil) λp s=>(.of @Ja9 (λF _ _ _ _ _=>by unfold Ja9;(repeat' apply l6 (f:=F))<;>rfl) (by kernel_rfl))
structure bb2 where
structure ka8 where
 b9:List Pln
 U8:List Pt
 is4:Int
noncomputable def sc3(p:bb2)(s:ka8):St:=⟨eL tP s.b9::.unk::.unk::eL tX s.U8::i s.is4::ra 31 [],[]⟩
noncomputable def Ka0{α:Type}(k:ka8->α)(e:Nat->α)(z:α)(p:bb2)(s:ka8):α:=let t1:=(lp (Ga5 (⟨rt tP s.b9,rt tX s.U8,s.is4⟩:bb1)) (⟨false,0⟩:ta7));(sl (decide (s.is4<(↑(List.length s.b9):Int))) (sl ((cnE tP s.b9)&&((cnE tX s.U8)&&true)) (sl (Nat.beq t1.1 1) (sl (!t1.2.bs5) (e 1) (k ⟨rt tP s.b9,rt tX s.U8,W (s.is4+1)⟩)) z) z) (e 2))
noncomputable def Sa5(p:bb2)(s:ka8):Stp ka8:=Ka0 .next .exit .fail p s
noncomputable def Ub7:Lo bb2 ka8:=⟨En ic0,0,We5,[1,1,0,1,4,4],[0,3,4],.s .p (.s (.b (.s .p (.s (.s .p (.b (.u Ub6.ls))) .p))) .p),[⟨sLq tP::sUq::sUq::sLq tX::sIq::ru2 31 [],[],λa H=>(⟨⟩,⟨aLq tP a 0,aLq tX a 3,aIq a 4⟩)⟩],Sa5,[(none,λp s=>⟨[b false],[]⟩),(some 0,λp s=>upq (sc3 p s) [(9,i s.is4),(10,eL tP s.b9),(11,i (↑(List.length s.b9):Int)),(12,b (decide (s.is4<(↑(List.length s.b9):Int))))])],sc3⟩
theorem wd3:Ub7.Ok:=Lo.ok [Ub6.pr] (by kernel_rfl) (.cons wd2 .nil) rfl (.cons (λa H=>by kernel_rfl) .nil) λp s=>(.of @Ka0 (λF _ _ _ _ _=>by unfold Ka0;(repeat' apply l6 (f:=F))<;>rfl) (by kernel_rfl))
noncomputable def Bb6(x:List Pln):Option (b7×List b8):=let t1:=(Sa2 (rt tP x));let t2:=(lp (Sa5 (⟨⟩:bb2)) (⟨rt tP x,rt tX t1,0⟩:ka8));(sl (okE tP x) (sl (Sa3 (rt tP x)) (sl ((cnE tP x)&&((cnE tX t1)&&true)) (sl (Nat.beq t2.1 1) (some (b false,[])) (sl (Nat.beq t2.1 2) (some (b true,[])) none)) none) none) none)
noncomputable def Ub8(x:List Pln):Bool:=N6 (one r1B) (Bb6 x)
noncomputable def Ub9(x:List Pln):Bool:=okO (one r1B) (Bb6 x)
noncomputable def jd6:Sum:=Y0 (P0 tP) (λx=>.guard (Ub9 x) (.ret ((one r1B).enc (Ub8 x),[])))
theorem ce8:g9 prog G 123 jd6:=Ja3 (bd eg9 Od6) (one r1B) (o:=Bb6) λx=>wa1 (.s .p (.s .p (.s (.s .p (.b (.u Ub7.ls))) .p))) [Ub7.pr] (by kernel_rfl) (.cons wd3 .nil) (by kernel_rfl)
noncomputable def ce9:List (Nat×Sum):=[(100,hc9),(124,Nc5),(123,jd6)]
theorem Od7:i7 prog G ce9:=⟨Fc1,jd4,ce8,trivial⟩
noncomputable def Bb7(x:List Pln):Option (b7×List b8):=let t1:=(nb7 (rt tP x));let t2:=(Pb6 (rt tP x));let t3:=(Ub8 (rt tP t2));(sl (okE tP x) (sl (nb8 (rt tP x)) (sl (t1==0) (sl (okE tP x) (sl (Pb7 (rt tP x)) (sl (okE tP t2) (sl (Ub9 (rt tP t2)) (some (b t3,[])) none) none) none) none) (some (b false,[]))) none) none)
noncomputable def Xa2(x:List Pln):Bool:=N6 (one r1B) (Bb7 x)
noncomputable def Xa3(x:List Pln):Bool:=okO (one r1B) (Bb7 x)
noncomputable def xc0:Sum:=Y0 (P0 tP) (λx=>.guard (Xa3 x) (.ret ((one r1B).enc (Xa2 x),[])))
theorem Tc6:g9 prog G 70 xc0:=Ja3 (bd b70 Od7) (one r1B) (o:=Bb7) λx=>v8 (by kernel_rfl)
noncomputable def re4:List (Nat×Sum):=[]
theorem de0:i7 prog G re4:=trivial
noncomputable def Pb8(x:Int)(y:Int):Option (b7×List b8):=(sl (decide (y<1)) (some (i 0,[])) (sl (y==0) none (sl (y==0) none (some (i (Int.tmod (W ((Int.tmod x y)+y)) y),[])))))
noncomputable def Pb9(x:Int)(y:Int):Int:=N6 (one r1I) (Pb8 x y)
noncomputable def Qb0(x:Int)(y:Int):Bool:=okO (one r1I) (Pb8 x y)
noncomputable def Nc6:Sum:=oa3 cI cI (λx y=>.guard (Qb0 x y) (.ret ((one r1I).enc (Pb9 x y),[])))
theorem jd7:g9 prog G 27 Nc6:=mb9 (bd b27 de0) (one r1I) (o:=Pb8) λx y=>v8 (by kernel_rfl)
noncomputable def Od8:List (Nat×Sum):=[]
theorem wd4:i7 prog G Od8:=trivial
noncomputable def Ya5(x:V3)(y:V3):Int:=(W ((W ((W (x.x*y.x))+(W (x.y*y.y))))+(W (x.z*y.z))))
noncomputable def ic1:Sum:=oa3 (ia0 tV) (ia0 tV) (λx y=>.ret ((one r1I).enc (Ya5 x y),[]))
theorem Fc3:g9 prog G 83 ic1:=Ha8 (bd b83 wd4) λx y=>v8 (by kernel_rfl)
noncomputable def Od9:List (Nat×Sum):=[]
theorem wd5:i7 prog G Od9:=trivial
noncomputable def Ba1(x:V3)(y:V3):V3:=(⟨W (x.x+y.x),W (x.y+y.y),W (x.z+y.z)⟩:V3)
noncomputable def Tc7:Sum:=oa3 (ia0 tV) (ia0 tV) (λx y=>.ret ((one r1V).enc (Ba1 x y),[]))
theorem Pd0:g9 prog G 34 Tc7:=Ha8 (bd b34 wd5) λx y=>v8 (by kernel_rfl)
noncomputable def wd6:List (Nat×Sum):=[]
theorem jd8:i7 prog G wd6:=trivial
noncomputable def ta8(x:V3)(y:Int):V3:=(⟨W (x.x*y),W (x.y*y),W (x.z*y)⟩:V3)
noncomputable def Fc4:Sum:=oa3 (ia0 tV) cI (λx y=>.ret ((one r1V).enc (ta8 x y),[]))
theorem wd7:g9 prog G 116 Fc4:=Ha8 (bd eg6 jd8) λx y=>v8 (by kernel_rfl)
noncomputable def jd9:List (Nat×Sum):=[]
theorem Xc2:i7 prog G jd9:=trivial
noncomputable def X3(x:V3)(y:V3):V3:=(⟨W ((W (x.y*y.z))-(W (x.z*y.y))),W ((W (x.z*y.x))-(W (x.x*y.z))),W ((W (x.x*y.y))-(W (x.y*y.x)))⟩:V3)
noncomputable def sc4:Sum:=oa3 (ia0 tV) (ia0 tV) (λx y=>.ret ((one r1V).enc (X3 x y),[]))
theorem kd0:g9 prog G 142 sc4:=Ha8 (bd fg9 Xc2) λx y=>v8 (by kernel_rfl)
noncomputable def Pd1:List (Nat×Sum):=[(83,ic1)]
theorem wd8:i7 prog G Pd1:=⟨Fc3,trivial⟩
noncomputable def Ba2(x:Pln)(y:Pt):Int:=let t1:=(Ya5 x.n (⟨y.px,y.py,y.pz⟩:V3));(W ((W (x.b*y.pw))-t1))
noncomputable def Ib9:Sum:=oa3 (ia0 tP) (ia0 tX) (λx y=>.ret ((one r1I).enc (Ba2 x y),[]))
theorem Vb0:g9 prog G 153 Ib9:=Ha8 (bd gg2 wd8) λx y=>v8 (by kernel_rfl)
noncomputable def ic2:List (Nat×Sum):=[]
theorem Pd2:i7 prog G ic2:=trivial
structure Oa0 where
 fb7:List Int
 (is7 is8:Int)
structure ta9 where
 (is3 is5:Int)
noncomputable def sc5(p:Oa0)(s:ta9):St:=⟨ra 3 (i s.is3::.unk::i s.is5::eL tI p.fb7::i p.is7::i p.is8::ra 14 []),[]⟩
noncomputable def Ka1{α:Type}(k:ta9->α)(e:Nat->α)(z:α)(p:Oa0)(s:ta9):α:=(sl (s.is5 != 0) (sl (s.is5==0) z (k ⟨s.is5,Int.tmod s.is3 s.is5⟩)) (e 1))
noncomputable def Sa6(p:Oa0)(s:ta9):Stp ta9:=Ka1 .next .exit .fail p s
noncomputable def Vb1:Lo Oa0 ta9:=⟨En ic2,0,Xe1,[1,1,0,1,4,4,1,1,0,4,1,4,4],[3,5,6,7,8],.p,[⟨ru2 3 (sIq::sUq::sIq::sLq tI::sIq::sIq::ru2 14 []),[],λa H=>(⟨aLq tI a 6,aIq a 7,aIq a 8⟩,⟨aIq a 3,aIq a 5⟩)⟩],Sa6,[(some 2,λp s=>upq (sc5 p s) [(12,i s.is5),(13,b (s.is5 != 0))])],sc5⟩
theorem wd9:Vb1.Ok:=Lo.ok [] (by kernel_rfl) .nil rfl (.cons (λa H=>by kernel_rfl) .nil) λp s=>(.of @Ka1 (λF _ _ _ _ _=>by unfold Ka1;(repeat' apply l6 (f:=F))<;>rfl) (by kernel_rfl))
structure bb3 where
 is7:Int
structure ua0 where
 is3:Int
 fb7:List Int
 is8:Int
noncomputable def sc6(p:bb3)(s:ua0):St:=⟨ra 3 (i s.is3::.unk::.unk::eL tI s.fb7::i p.is7::i s.is8::ra 14 []),[]⟩
noncomputable def Ka2{α:Type}(k:ua0->α)(e:Nat->α)(z:α)(p:bb3)(s:ua0):α:=let t1:=(lp (Sa6 (⟨rt tI s.fb7,p.is7,s.is8⟩:Oa0)) (⟨s.is3,gL tI s.fb7 s.is8.toNat⟩:ta9));(sl (decide (s.is8<p.is7)) (sl (inB s.is8 (List.length s.fb7)) (sl ((cnE tI s.fb7)&&true) (sl (Nat.beq t1.1 1) (k ⟨t1.2.is3,rt tI s.fb7,W (s.is8+1)⟩) z) z) z) (e 1))
noncomputable def Ga6(p:bb3)(s:ua0):Stp ua0:=Ka2 .next .exit .fail p s
noncomputable def Vb2:Lo bb3 ua0:=⟨En ic2,0,Xe1,[1,1,0,1,4,4],[3,6,7,8],.s .p (.s .p (.s (.b (.s .p (.b (.u Vb1.ls)))) .p)),[⟨ru2 3 (sIq::sUq::sUq::sLq tI::sIq::sIq::ru2 14 []),[],λa H=>(⟨aIq a 7⟩,⟨aIq a 3,aLq tI a 6,aIq a 8⟩)⟩],Ga6,[(some 0,λp s=>upq (sc6 p s) [(9,b (decide (s.is8<p.is7)))])],sc6⟩
theorem xd0:Vb2.Ok:=Lo.ok [Vb1.pr] (by kernel_rfl) (.cons wd9 .nil) rfl (.cons (λa H=>by kernel_rfl) .nil) λp s=>(.of @Ka2 (λF _ _ _ _ _=>by unfold Ka2;(repeat' apply l6 (f:=F))<;>rfl) (by kernel_rfl))
noncomputable def Bb8(x:List Int):Option (b7×List b8):=let t1:=(lp (Ga6 (⟨(↑(List.length x):Int)⟩:bb3)) (⟨0,rt tI x,0⟩:ua0));(sl ((cnE tI x)&&true) (sl (Nat.beq t1.1 1) (some ((i (if (W (0-t1.2.is3))>t1.2.is3 then (W (0-t1.2.is3)) else t1.2.is3)),[])) none) none)
noncomputable def Vb3(x:List Int):Int:=N6 (one r1I) (Bb8 x)
noncomputable def Vb4(x:List Int):Bool:=okO (one r1I) (Bb8 x)
noncomputable def kd1:Sum:=Y0 (P0 tI) (λx=>.guard (Vb4 x) (.ret ((one r1I).enc (Vb3 x),[])))
theorem de1:g9 prog G 222 kd1:=Ja3 (bd jg9 Pd2) (one r1I) (o:=Bb8) λx=>wa1 (.s .p (.s .p (.s (.s .p (.b (.u Vb2.ls))) .p))) [Vb2.pr] (by kernel_rfl) (.cons xd0 .nil) (by kernel_rfl)
noncomputable def Pd3:List (Nat×Sum):=[(142,sc4),(83,ic1),(116,Fc4),(34,Tc7),(222,kd1)]
theorem xd1:i7 prog G Pd3:=⟨kd0,Fc3,wd7,Pd0,de1,trivial⟩
noncomputable def nb9(x:Tp):Option (b7×List b8):=let t1:=(X3 x.q.n x.r.n);let t3:=(ta8 t1 x.p.b);let t4:=(Ba1 (⟨0,0,0⟩:V3) t3);let t5:=(X3 x.r.n x.p.n);let t7:=(ta8 t5 x.q.b);let t8:=(Ba1 t4 t7);let t9:=(X3 x.p.n x.q.n);let t10:=(Ya5 x.r.n t9);let t11:=(ta8 t9 x.r.b);let t12:=(Ba1 t8 t11);let t13:=(Vb3 [t12.x,t12.y,t12.z,t10]);(sl (t10==0) (some (.tup [.agg [i 0,i 0,i 0,i 0],b false],[])) (sl (Vb4 [t12.x,t12.y,t12.z,t10]) (sl (decide (t10<0)) (sl ((W (0-t13))==0) none (sl ((W (0-t13))==0) none (sl ((W (0-t13))==0) none (sl ((W (0-t13))==0) none (some (.tup [.agg [i (W (Int.tdiv t12.x (W (0-t13)))),i (W (Int.tdiv t12.y (W (0-t13)))),i (W (Int.tdiv t12.z (W (0-t13)))),i (W (Int.tdiv t10 (W (0-t13))))],b true],[])))))) (sl (t13==0) none (sl (t13==0) none (sl (t13==0) none (sl (t13==0) none (some (.tup [.agg [i (W (Int.tdiv t12.x t13)),i (W (Int.tdiv t12.y t13)),i (W (Int.tdiv t12.z t13)),i (W (Int.tdiv t10 t13))],b true],[]))))))) none))
noncomputable def ob0(x:Tp):Pt×Bool:=N6 (two r1X r1B) (nb9 x)
noncomputable def ob1(x:Tp):Bool:=okO (two r1X r1B) (nb9 x)
noncomputable def Tc8:Sum:=Y0 (ia0 tY) (λx=>.guard (ob1 x) (.ret ((two r1X r1B).enc (ob0 x),[])))
theorem Pd4:g9 prog G 195 Tc8:=Ja3 (bd jg0 xd1) (two r1X r1B) (o:=nb9) λx=>v8 (by kernel_rfl)
structure Va3 where
 (ia5 ia6 ia7 rb0 f7 d8 f8 i9:Int)
noncomputable def Nc7:List (Nat×Sum):=[(153,Ib9)]
theorem Fc5:i7 prog G Nc7:=⟨Vb0,trivial⟩
structure Da9 where
 bs0:Bool
noncomputable def Ea0{α:Type}(kk:Da9->α)(x:Va3):α:=let t1:=(Ba2 (⟨(⟨x.ia5,x.ia6,x.ia7⟩:V3),x.rb0⟩:Pln) (⟨x.f7,x.d8,x.f8,x.i9⟩:Pt));(kk ⟨decide (t1<0)⟩)
noncomputable def sb0(x:Va3):Da9:=Ea0 (λr=>r) x
noncomputable def ib0(x:Va3)(r:Da9):DT (b7×List b8):=.ret (b r.bs0,[⟨0,4,[[i x.f7,i x.d8,i x.f8,i x.i9]],true,false,0⟩])
theorem Xc3{α β:Type}(F:α->β)(kk:Da9->α)(x:Va3):F (Ea0 kk x)=Ea0 (λr=>F (kk r)) x:=by unfold Ea0;(repeat' apply l6 (f:=F))<;>rfl
noncomputable def Zb2:Sum:=Ra9 ⟨[.agg (kLq 4),sPq 0],[⟨0,4,true,some [kLq 4]⟩],λa H=>(⟨cIq a 0 0,cIq a 0 1,cIq a 0 2,cIq a 0 3,hIq H 0 0 0,hIq H 0 0 1,hIq H 0 0 2,hIq H 0 0 3⟩,())⟩ (λx=>ib0 x (sb0 x))
theorem Nc8:g9 prog G 172 Zb2:=J4 (enc:=λx=>⟨[.agg [i x.ia5,i x.ia6,i x.ia7,i x.rb0],.ptr 0 0 0 0],[⟨0,4,[[i x.f7,i x.d8,i x.f8,i x.i9]],true,false,0⟩]⟩) (λa H=>by kernel_rfl) (bd ig0 Fc5) λx=>v8 (Qha (b:=Ea0 (λr=>(ib0 x r).run) x) (by kernel_rfl) (Xc3 (λr=>(ib0 x r).run) (λr=>r) x).symm)
structure ba7 where
 b9:List Pln
 (f7 d8 f8 i9:Int)
noncomputable def Ka3:List (Nat×Sum):=[(172,Zb2)]
theorem vb9:i7 prog G Ka3:=⟨Nc8,trivial⟩
structure M3 where
 b9:List Pln
 (is7 f7 d8 f8 i9:Int)
structure p6 where
 is8:Int
noncomputable def Ea1(p:M3)(s:p6):St:=⟨eL tP p.b9::.fn 172 [.ptr 0 0 0 0]::ra 5 (i p.is7::i s.is8::ra 10 []),[⟨0,4,[[i p.f7,i p.d8,i p.f8,i p.i9]],true,false,0⟩]⟩
noncomputable def G9{α:Type}(k:p6->α)(e:Nat->α)(z:α)(p:M3)(s:p6):α:=let t1:=(sb0 ⟨(gL tP p.b9 s.is8.toNat).n.x,(gL tP p.b9 s.is8.toNat).n.y,(gL tP p.b9 s.is8.toNat).n.z,(gL tP p.b9 s.is8.toNat).b,p.f7,p.d8,p.f8,p.i9⟩);(sl (decide (s.is8<p.is7)) (sl (inB s.is8 (List.length p.b9)) (sl t1.bs0 (e 1) (k ⟨W (s.is8+1)⟩)) z) (e 2))
noncomputable def J7(p:M3)(s:p6):Stp p6:=G9 .next .exit .fail p s
noncomputable def ka9:Lo M3 p6:=⟨En Ka3,1,be8,[1,0,1,4,4],[0,1,7,8],.p,[⟨sLq tP::.fn 172 [.o (.ptr 0 0 0 0)]::ru2 5 (sIq::sIq::ru2 10 []),[⟨0,4,true,some [kLq 4]⟩],λa H=>(⟨aLq tP a 0,aIq a 7,hIq H 0 0 0,hIq H 0 0 1,hIq H 0 0 2,hIq H 0 0 3⟩,⟨aIq a 8⟩)⟩],J7,[(none,λp s=>⟨[i s.is8],[⟨0,4,[[i p.f7,i p.d8,i p.f8,i p.i9]],true,false,0⟩]⟩),(some 0,λp s=>upq (Ea1 p s) [(9,b (decide (s.is8<p.is7)))])],Ea1⟩
theorem sb1:ka9.Ok:=Lo.ok [] (by kernel_rfl) .nil rfl (.cons (λa H=>by kernel_rfl) .nil) λp s=>(.of @G9 (λF _ _ _ _ _=>by unfold G9;(repeat' apply l6 (f:=F))<;>rfl) (by kernel_rfl))
structure ba8 where
 alt:Nat
 is0:Int
noncomputable def I4{α:Type}(kk:ba8->α)(x:ba7):α:=let t1:=(lp (J7 (⟨rt tP x.b9,(↑(List.length x.b9):Int),x.f7,x.d8,x.f8,x.i9⟩:M3)) (⟨0⟩:p6));(sl ((cnE tP x.b9)&&true) (sl (Nat.beq t1.1 1) (kk ⟨1,t1.2.is8⟩) (sl (Nat.beq t1.1 2) (kk ⟨1,-1⟩) (kk ⟨0,0⟩))) (kk ⟨0,0⟩))
noncomputable def ba9(x:ba7):ba8:=I4 (λr=>r) x
noncomputable def oa6(x:ba7)(r:ba8):DT (b7×List b8):=(.ite (Nat.beq r.alt 1) (.ret (i r.is0,[⟨0,4,[[i x.f7,i x.d8,i x.f8,i x.i9]],true,false,0⟩])) .fail)
theorem Fb7{α β:Type}(F:α->β)(kk:ba8->α)(x:ba7):F (I4 kk x)=I4 (λr=>F (kk r)) x:=by unfold I4;(repeat' apply l6 (f:=F))<;>rfl
noncomputable def Pa1:Sum:=Ra9 ⟨[sLq tP,.fn 172 [.o (.ptr 0 0 0 0)]],[⟨0,4,true,some [kLq 4]⟩],λa H=>(⟨aLq tP a 0,hIq H 0 0 0,hIq H 0 0 1,hIq H 0 0 2,hIq H 0 0 3⟩,())⟩ (λx=>oa6 x (ba9 x))
theorem Bb9:g9 prog G 139 Pa1:=J4 (enc:=λx=>⟨[eL tP x.b9,.fn 172 [.ptr 0 0 0 0]],[⟨0,4,[[i x.f7,i x.d8,i x.f8,i x.i9]],true,false,0⟩]⟩) (λa H=>by kernel_rfl) (bd rf7 vb9) λx=>wa1 (.s .p (.s (.s .p (.b (.u ka9.ls))) .p)) [ka9.pr] (by kernel_rfl) (.cons sb1 .nil) (Qha (b:=I4 (λr=>(oa6 x r).run) x) (by kernel_rfl) (Fb7 (λr=>(oa6 x r).run) (λr=>r) x).symm)
structure T4 where
 b9:List Pln
 (f7 d8 f8 i9:Int)
noncomputable def ob2:List (Nat×Sum):=[(139,Pa1)]
theorem ib1:i7 prog G ob2:=⟨Bb9,trivial⟩
structure T5 where
 alt:Nat
 bs0:Bool
noncomputable def D5{α:Type}(kk:T5->α)(x:T4):α:=let t1:=(ba9 ⟨rt tP x.b9,x.f7,x.d8,x.f8,x.i9⟩);(sl ((cnE tP x.b9)&&true) (sl (Nat.beq t1.alt 1) (kk ⟨1,decide (t1.is0>=0)⟩) (kk ⟨0,false⟩)) (kk ⟨0,false⟩))
noncomputable def ja0(x:T4):T5:=D5 (λr=>r) x
noncomputable def ga4(x:T4)(r:T5):DT (b7×List b8):=(.ite (Nat.beq r.alt 1) (.ret (b r.bs0,[⟨0,4,[[i x.f7,i x.d8,i x.f8,i x.i9]],true,false,0⟩])) .fail)
theorem sb2{α β:Type}(F:α->β)(kk:T5->α)(x:T4):F (D5 kk x)=D5 (λr=>F (kk r)) x:=by unfold D5;(repeat' apply l6 (f:=F))<;>rfl
noncomputable def Ea2:Sum:=Ra9 ⟨[sLq tP,.fn 172 [.o (.ptr 0 0 0 0)]],[⟨0,4,true,some [kLq 4]⟩],λa H=>(⟨aLq tP a 0,hIq H 0 0 0,hIq H 0 0 1,hIq H 0 0 2,hIq H 0 0 3⟩,())⟩ (λx=>ga4 x (ja0 x))
theorem ob3:g9 prog G 86 Ea2:=J4 (enc:=λx=>⟨[eL tP x.b9,.fn 172 [.ptr 0 0 0 0]],[⟨0,4,[[i x.f7,i x.d8,i x.f8,i x.i9]],true,false,0⟩]⟩) (λa H=>by kernel_rfl) (bd b86 ib1) λx=>v8 (Qha (b:=D5 (λr=>(ga4 x r).run) x) (by kernel_rfl) (sb2 (λr=>(ga4 x r).run) (λr=>r) x).symm)
noncomputable def kd2:List (Nat×Sum):=[(86,Ea2)]
theorem Xc4:i7 prog G kd2:=⟨ob3,trivial⟩
noncomputable def Sa7(x:List Pln)(y:Pt):Option (b7×List b8):=let t1:=(ja0 ⟨rt tP x,y.px,y.py,y.pz,y.pw⟩);(sl ((cnE tP x)&&true) (sl (Nat.beq t1.alt 1) (some (b (!t1.bs0),[])) none) none)
noncomputable def na5(x:List Pln)(y:Pt):Bool:=N6 (one r1B) (Sa7 x y)
noncomputable def na6(x:List Pln)(y:Pt):Bool:=okO (one r1B) (Sa7 x y)
noncomputable def Lb4:Sum:=oa3 (P0 tP) (ia0 tX) (λx y=>.guard (na6 x y) (.ret ((one r1B).enc (na5 x y),[])))
theorem ic3:g9 prog G 115 Lb4:=mb9 (bd eg5 Xc4) (one r1B) (o:=Sa7) λx y=>v8 (by kernel_rfl)
noncomputable def Sa8:List (Nat×Sum):=[]
theorem Fb8:i7 prog G Sa8:=trivial
@[reducible] noncomputable def Ya6:Sum:=Ob3 (En Sa8) Df3
theorem Lb5:g9 prog G 221 Ya6:=bd jg8 Fb8
noncomputable def bb4:List (Nat×Sum):=[(221,Ya6)]
theorem Qb1:i7 prog G bb4:=⟨Lb5,trivial⟩
@[reducible] noncomputable def gb2:Sum:=Ob3 (En bb4) Cf6
theorem Vb5:g9 prog G 194 gb2:=bd ig9 Qb1
noncomputable def la0:List (Nat×Sum):=[(195,Tc8),(115,Lb4),(194,gb2)]
theorem Qb2:i7 prog G la0:=⟨Pd4,ic3,Vb5,trivial⟩
structure j9 where
 is3:Int
 y7:List Pln
 (na2 p4:Int)
 Bd1:Nat
 Sb3:Nat->List b7
 (Sc0 Ha7:Int)
 jf9:Nat
 Fb4:Nat->List b7
 ve4:Int
 d7:List Pln
 (W9 X0 X1 da5 fb4 fb5 fb6 Yb3:Int)
 Pa0:List Pln
structure k8 where
 ph:Nat
 Ia7:Int
 xb9:Nat
 (eh6 eh7:List (List b7))
noncomputable def Pa2(p:j9)(s:k8):St:=⟨.unk::.ptr 0 0 0 0::.unk::i p.is3::.ptr 1 0 0 0::.unk::.ptr 2 0 0 0::.unk::.unk::eL tP p.y7::i p.na2::i p.p4::ra 7 (.tree 4 p.Bd1 p.Sb3::i p.Sc0::i p.Ha7::ra 9 (.tree 4 p.jf9 p.Fb4::i p.ve4::i s.Ia7::ra 13 (i 0::.unk::.ptr 3 0 0 0::.v (.slice none 0 0)::.ptr 4 0 0 0::.ptr 5 0 0 0::ra 31 []))),[⟨0,1,[[eL tP p.d7]],true,false,0⟩,⟨0,4,[[i p.W9,i p.X0,i p.X1,i p.da5]],true,false,0⟩,⟨0,4,[[i p.fb4,i p.fb5,i p.fb6,i p.Yb3]],true,false,0⟩,⟨0,1,[[eL tP p.Pa0]],true,false,0⟩,⟨0,0,[[.v (.slice none 0 0)]],true,false,0⟩,⟨0,0,[[.ptr 6 0 0 0]],true,false,0⟩,⟨182,0,[],true,false,0⟩]⟩
noncomputable def Pa3(p:j9)(s:k8):St:=⟨.unk::.ptr 0 0 0 0::.unk::i p.is3::.ptr 1 0 0 0::.unk::.ptr 2 0 0 0::.unk::.unk::eL tP p.y7::i p.na2::i p.p4::ra 7 (.tree 4 p.Bd1 p.Sb3::i p.Sc0::i p.Ha7::ra 9 (.tree 4 p.jf9 p.Fb4::i p.ve4::i s.Ia7::ra 13 (i 0::.unk::.ptr 3 0 0 0::.v (.slice none 0 0)::.ptr 4 0 0 0::.ptr 5 0 0 0::ra 31 []))),[⟨0,1,[[eL tP p.d7]],true,false,0⟩,⟨0,4,[[i p.W9,i p.X0,i p.X1,i p.da5]],true,false,0⟩,⟨0,4,[[i p.fb4,i p.fb5,i p.fb6,i p.Yb3]],true,false,0⟩,⟨0,1,[[eL tP p.Pa0]],true,false,0⟩,⟨0,0,[[.sl 6 0 s.xb9 0]],true,false,0⟩,⟨0,0,[[.ptr 7 0 0 0]],true,false,0⟩,⟨136,4,s.eh6,true,false,0⟩,⟨182,0,s.eh7,true,false,0⟩]⟩
noncomputable def Lb6(p:j9)(s:k8):St:=(sel (Nat.beq s.ph 1) (Pa3 p s) (Pa2 p s))
noncomputable def C6{α:Type}(k:k8->α)(e:Nat->α)(z:α)(p:j9)(s:k8):α:=let t1:=(ob0 (⟨(⟨(⟨p.W9,p.X0,p.X1⟩:V3),p.da5⟩:Pln),(⟨(⟨p.fb4,p.fb5,p.fb6⟩:V3),p.Yb3⟩:Pln),(⟨(⟨toI (hdA (p.Fb4 s.Ia7.toNat)),toI (hdA (tlA (p.Fb4 s.Ia7.toNat))),toI (hdA (tlA (tlA (p.Fb4 s.Ia7.toNat))))⟩:V3),toI (hdA (tlA (tlA (tlA (p.Fb4 s.Ia7.toNat)))))⟩:Pln)⟩:Tp));let t2:=(na5 (rt tP p.Pa0) t1.1);(sl (decide (s.Ia7<p.ve4)) (sl (inB s.Ia7 p.jf9) (sl ((Nat.ble 4 (len (p.Fb4 s.Ia7.toNat)))&&(ra7 [CK.int .i64,CK.int .i64,CK.int .i64,CK.int .i64] (p.Fb4 s.Ia7.toNat))) (sl (ob1 (⟨(⟨(⟨p.W9,p.X0,p.X1⟩:V3),p.da5⟩:Pln),(⟨(⟨p.fb4,p.fb5,p.fb6⟩:V3),p.Yb3⟩:Pln),(⟨(⟨toI (hdA (p.Fb4 s.Ia7.toNat)),toI (hdA (tlA (p.Fb4 s.Ia7.toNat))),toI (hdA (tlA (tlA (p.Fb4 s.Ia7.toNat))))⟩:V3),toI (hdA (tlA (tlA (tlA (p.Fb4 s.Ia7.toNat)))))⟩:Pln)⟩:Tp)) (sl t1.2 (sl (!(Ac9 4 [(0,.int .i64),(1,.int .i64),(2,.int .i64),(3,.int .i64)] [i t1.1.px,i t1.1.py,i t1.1.pz,i t1.1.pw] [])) (sl (okE tP p.Pa0) (sl (na6 (rt tP p.Pa0) t1.1) (sl t2 (k ⟨1,W (s.Ia7+1),1,[[i t1.1.px,i t1.1.py,i t1.1.pz,i t1.1.pw]],Kb5 [(0,.int .i64),(1,.int .i64),(2,.int .i64),(3,.int .i64)] [i t1.1.px,i t1.1.py,i t1.1.pz,i t1.1.pw] [i t1.1.px,i t1.1.py,i t1.1.pz,i t1.1.pw,b true] []⟩) (k ⟨0,W (s.Ia7+1),0,[],[]⟩)) z) z) (k ⟨0,W (s.Ia7+1),0,[],[]⟩)) (k ⟨0,W (s.Ia7+1),0,[],[]⟩)) z) z) z) (e 1))
noncomputable def C7{α:Type}(k:k8->α)(e:Nat->α)(z:α)(p:j9)(s:k8):α:=let t1:=(ob0 (⟨(⟨(⟨p.W9,p.X0,p.X1⟩:V3),p.da5⟩:Pln),(⟨(⟨p.fb4,p.fb5,p.fb6⟩:V3),p.Yb3⟩:Pln),(⟨(⟨toI (hdA (p.Fb4 s.Ia7.toNat)),toI (hdA (tlA (p.Fb4 s.Ia7.toNat))),toI (hdA (tlA (tlA (p.Fb4 s.Ia7.toNat))))⟩:V3),toI (hdA (tlA (tlA (tlA (p.Fb4 s.Ia7.toNat)))))⟩:Pln)⟩:Tp));let t2:=(na5 (rt tP p.Pa0) t1.1);(sl (decide (s.Ia7<p.ve4)) (sl (inB s.Ia7 p.jf9) (sl ((Nat.ble 4 (len (p.Fb4 s.Ia7.toNat)))&&(ra7 [CK.int .i64,CK.int .i64,CK.int .i64,CK.int .i64] (p.Fb4 s.Ia7.toNat))) (sl (ob1 (⟨(⟨(⟨p.W9,p.X0,p.X1⟩:V3),p.da5⟩:Pln),(⟨(⟨p.fb4,p.fb5,p.fb6⟩:V3),p.Yb3⟩:Pln),(⟨(⟨toI (hdA (p.Fb4 s.Ia7.toNat)),toI (hdA (tlA (p.Fb4 s.Ia7.toNat))),toI (hdA (tlA (tlA (p.Fb4 s.Ia7.toNat))))⟩:V3),toI (hdA (tlA (tlA (tlA (p.Fb4 s.Ia7.toNat)))))⟩:Pln)⟩:Tp)) (sl t1.2 (sl (!(Ac9 4 [(0,.int .i64),(1,.int .i64),(2,.int .i64),(3,.int .i64)] [i t1.1.px,i t1.1.py,i t1.1.pz,i t1.1.pw] s.eh7)) (sl (okE tP p.Pa0) (sl (na6 (rt tP p.Pa0) t1.1) (sl t2 (sl (Nat.beq s.xb9 (len s.eh6)&&Nat.ble ((s.xb9+1)*32) room) (k ⟨1,W (s.Ia7+1),s.xb9+1,app s.eh6 [[i t1.1.px,i t1.1.py,i t1.1.pz,i t1.1.pw]],Kb5 [(0,.int .i64),(1,.int .i64),(2,.int .i64),(3,.int .i64)] [i t1.1.px,i t1.1.py,i t1.1.pz,i t1.1.pw] [i t1.1.px,i t1.1.py,i t1.1.pz,i t1.1.pw,b true] s.eh7⟩) z) (k ⟨1,W (s.Ia7+1),s.xb9,s.eh6,s.eh7⟩)) z) z) (k ⟨1,W (s.Ia7+1),s.xb9,s.eh6,s.eh7⟩)) (k ⟨1,W (s.Ia7+1),s.xb9,s.eh6,s.eh7⟩)) z) z) z) (e 2))
noncomputable def A5(p:j9)(s:k8):Stp k8:=(sel (Nat.beq s.ph 1) (C7 .next .exit .fail p s) (C6 .next .exit .fail p s))
noncomputable def za0:Lo j9 k8:=⟨En la0,0,ye2,[1,1,1,0,1,4,4,1,4,4,1,1,0,4,1,1,4,4,1,1,0,4,1,1,4,4],[1,3,4,6,9,10,11,19,20,21,31,32,33,47,49,50,51,52],.p,[⟨sUq::sPq 0::sUq::sIq::sPq 1::sUq::sPq 2::sUq::sUq::sLq tP::sIq::sIq::ru2 7 (sTq 4::sIq::sIq::ru2 9 (sTq 4::sIq::sIq::ru2 13 (.s (.o (.lit .i64 0))::sUq::sPq 3::.s (.o .nil)::sPq 4::sPq 5::ru2 31 []))),[⟨0,1,true,some [[.c 4 (nL tP)]]⟩,⟨0,4,true,some [kLq 4]⟩,⟨0,4,true,some [kLq 4]⟩,⟨0,1,true,some [[.c 4 (nL tP)]]⟩,⟨0,0,true,some [[.o .nil]]⟩,⟨0,0,true,some [[.o (.ptr 6 0 0 0)]]⟩,⟨182,0,true,some []⟩],λa H=>(⟨aIq a 3,aLq tP a 9,aIq a 10,aIq a 11,aNq a 19,aGq a 19,aIq a 20,aIq a 21,aNq a 31,aGq a 31,aIq a 32,hLq tP H 0 0 0,hIq H 1 0 0,hIq H 1 0 1,hIq H 1 0 2,hIq H 1 0 3,hIq H 2 0 0,hIq H 2 0 1,hIq H 2 0 2,hIq H 2 0 3,hLq tP H 3 0 0⟩,⟨0,aIq a 33,0,[],[]⟩)⟩,⟨sUq::sPq 0::sUq::sIq::sPq 1::sUq::sPq 2::sUq::sUq::sLq tP::sIq::sIq::ru2 7 (sTq 4::sIq::sIq::ru2 9 (sTq 4::sIq::sIq::ru2 13 (.s (.o (.lit .i64 0))::sUq::sPq 3::.s (.o .nil)::sPq 4::sPq 5::ru2 31 []))),[⟨0,1,true,some [[.c 4 (nL tP)]]⟩,⟨0,4,true,some [kLq 4]⟩,⟨0,4,true,some [kLq 4]⟩,⟨0,1,true,some [[.c 4 (nL tP)]]⟩,⟨0,0,true,some [[.o (.sl 6 0 (some 0) none)]]⟩,⟨0,0,true,some [[.o (.ptr 7 0 0 0)]]⟩,⟨136,4,true,none⟩,⟨182,0,true,none⟩],λa H=>(⟨aIq a 3,aLq tP a 9,aIq a 10,aIq a 11,aNq a 19,aGq a 19,aIq a 20,aIq a 21,aNq a 31,aGq a 31,aIq a 32,hLq tP H 0 0 0,hIq H 1 0 0,hIq H 1 0 1,hIq H 1 0 2,hIq H 1 0 3,hIq H 2 0 0,hIq H 2 0 1,hIq H 2 0 2,hIq H 2 0 3,hLq tP H 3 0 0⟩,⟨1,aIq a 33,slN (slT (rwT (elT H 4) 0) 0),elT H 6,elT H 7⟩)⟩],A5,[(some 4,λp s=>upq (Pa2 p s) [(34,b (decide (s.Ia7<p.ve4)))]),(some 4,λp s=>upq (Pa3 p s) [(34,b (decide (s.Ia7<p.ve4)))])],Lb6⟩
theorem Lb7:za0.OkM:=Lo.okM [] (by kernel_rfl) .nil rfl (.cons (λa H=>by kernel_rfl) (.cons (λa H=>by kernel_rfl) .nil)) λp s=>(.sel (Nat.beq s.ph 1) (.of @C7 (λF _ _ _ _ _=>by unfold C7;(repeat' apply l6 (f:=F))<;>rfl) (by kernel_rfl)) (.of @C6 (λF _ _ _ _ _=>by unfold C6;(repeat' apply l6 (f:=F))<;>rfl) (by kernel_rfl)))
structure k9 where
 (is3 na2 p4:Int)
 Bd1:Nat
 Sb3:Nat->List b7
 (Sc0 W9 X0 X1 da5:Int)
structure l7 where
 ph:Nat
 y7:List Pln
 Ha7:Int
 (d7 ia8:List Pln)
 Yb4:Nat
 (eh5 eh6:List (List b7))
noncomputable def Pa4(p:k9)(s:l7):St:=⟨.unk::.ptr 0 0 0 0::.unk::i p.is3::.ptr 1 0 0 0::ra 4 (eL tP s.y7::i p.na2::i p.p4::ra 7 (.tree 4 p.Bd1 p.Sb3::i p.Sc0::i s.Ha7::ra 25 (i 0::.unk::.ptr 2 0 0 0::.v (.slice none 0 0)::.ptr 3 0 0 0::.ptr 4 0 0 0::ra 31 []))),[⟨0,1,[[eL tP s.d7]],true,false,0⟩,⟨0,4,[[i p.W9,i p.X0,i p.X1,i p.da5]],true,false,0⟩,⟨0,1,[[eL tP s.ia8]],true,false,0⟩,⟨0,0,[[.v (.slice none 0 0)]],true,false,0⟩,⟨0,0,[[.ptr 5 0 0 0]],true,false,0⟩,⟨182,0,[],true,false,0⟩]⟩
noncomputable def Pa5(p:k9)(s:l7):St:=⟨.unk::.ptr 0 0 0 0::.unk::i p.is3::.ptr 1 0 0 0::ra 4 (eL tP s.y7::i p.na2::i p.p4::ra 7 (.tree 4 p.Bd1 p.Sb3::i p.Sc0::i s.Ha7::ra 25 (i 0::.unk::.ptr 2 0 0 0::.v (.slice none 0 0)::.ptr 3 0 0 0::.ptr 4 0 0 0::ra 31 []))),[⟨0,1,[[eL tP s.d7]],true,false,0⟩,⟨0,4,[[i p.W9,i p.X0,i p.X1,i p.da5]],true,false,0⟩,⟨0,1,[[eL tP s.ia8]],true,false,0⟩,⟨0,0,[[.sl 5 0 s.Yb4 0]],true,false,0⟩,⟨0,0,[[.ptr 6 0 0 0]],true,false,0⟩,⟨136,4,s.eh5,true,false,0⟩,⟨182,0,s.eh6,true,false,0⟩]⟩
noncomputable def Lb8(p:k9)(s:l7):St:=(sel (Nat.beq s.ph 1) (Pa5 p s) (Pa4 p s))
noncomputable def C8{α:Type}(k:l7->α)(e:Nat->α)(z:α)(p:k9)(s:l7):α:=let t1:=(lp (A5 (⟨p.is3,rt tP s.y7,p.na2,p.p4,p.Bd1,p.Sb3,p.Sc0,s.Ha7,(List.length s.d7)-(W ((W (p.is3+s.Ha7))+2)).toNat,(λk=>(λk=>(tP).row (gL tP s.d7 k)) ((W ((W (p.is3+s.Ha7))+2)).toNat+k)),(↑((List.length s.d7)-(W ((W (p.is3+s.Ha7))+2)).toNat):Int),rt tP s.d7,p.W9,p.X0,p.X1,p.da5,toI (hdA (p.Sb3 s.Ha7.toNat)),toI (hdA (tlA (p.Sb3 s.Ha7.toNat))),toI (hdA (tlA (tlA (p.Sb3 s.Ha7.toNat)))),toI (hdA (tlA (tlA (tlA (p.Sb3 s.Ha7.toNat))))),rt tP s.ia8⟩:j9)) (⟨0,0,0,[],[]⟩:k8));(sl (decide (s.Ha7<p.Sc0)) (sl (inB s.Ha7 p.Bd1) (sl ((Nat.ble 4 (len (p.Sb3 s.Ha7.toNat)))&&(ra7 [CK.int .i64,CK.int .i64,CK.int .i64,CK.int .i64] (p.Sb3 s.Ha7.toNat))) (sl (inB (W ((W (p.is3+s.Ha7))+2)) ((List.length s.d7)+1)) (sl ((cnE tP s.y7)&&((cnE tP s.d7)&&((cnE tP s.ia8)&&true))) (sl (Nat.beq t1.1 1) (k ⟨0,rt tP s.y7,W (s.Ha7+1),rt tP s.d7,rt tP s.ia8,0,[],[]⟩) (sl (Nat.beq t1.1 2) (k ⟨1,rt tP s.y7,W (s.Ha7+1),rt tP s.d7,rt tP s.ia8,t1.2.xb9,t1.2.eh6,t1.2.eh7⟩) z)) z) z) z) z) (e 1))
noncomputable def C9{α:Type}(k:l7->α)(e:Nat->α)(z:α)(p:k9)(s:l7):α:=let t1:=(lp (A5 (⟨p.is3,rt tP s.y7,p.na2,p.p4,p.Bd1,p.Sb3,p.Sc0,s.Ha7,(List.length s.d7)-(W ((W (p.is3+s.Ha7))+2)).toNat,(λk=>(λk=>(tP).row (gL tP s.d7 k)) ((W ((W (p.is3+s.Ha7))+2)).toNat+k)),(↑((List.length s.d7)-(W ((W (p.is3+s.Ha7))+2)).toNat):Int),rt tP s.d7,p.W9,p.X0,p.X1,p.da5,toI (hdA (p.Sb3 s.Ha7.toNat)),toI (hdA (tlA (p.Sb3 s.Ha7.toNat))),toI (hdA (tlA (tlA (p.Sb3 s.Ha7.toNat)))),toI (hdA (tlA (tlA (tlA (p.Sb3 s.Ha7.toNat))))),rt tP s.ia8⟩:j9)) (⟨1,0,s.Yb4,s.eh5,s.eh6⟩:k8));(sl (decide (s.Ha7<p.Sc0)) (sl (inB s.Ha7 p.Bd1) (sl ((Nat.ble 4 (len (p.Sb3 s.Ha7.toNat)))&&(ra7 [CK.int .i64,CK.int .i64,CK.int .i64,CK.int .i64] (p.Sb3 s.Ha7.toNat))) (sl (inB (W ((W (p.is3+s.Ha7))+2)) ((List.length s.d7)+1)) (sl ((cnE tP s.y7)&&((cnE tP s.d7)&&((cnE tP s.ia8)&&true))) (sl (Nat.beq t1.1 1) (k ⟨0,rt tP s.y7,W (s.Ha7+1),rt tP s.d7,rt tP s.ia8,0,[],[]⟩) (sl (Nat.beq t1.1 2) (k ⟨1,rt tP s.y7,W (s.Ha7+1),rt tP s.d7,rt tP s.ia8,t1.2.xb9,t1.2.eh6,t1.2.eh7⟩) z)) z) z) z) z) (e 2))
noncomputable def A6(p:k9)(s:l7):Stp l7:=(sel (Nat.beq s.ph 1) (C9 .next .exit .fail p s) (C8 .next .exit .fail p s))
noncomputable def za1:Lo k9 l7:=⟨En la0,0,ye2,[1,1,1,0,1,4,4,1,4,4,1,1,0,4,1,1,4,4],[1,3,4,9,10,11,19,20,21,47,49,50,51,52],.s .p (.s .p (.s (.b (.s .p (.s .p (.b (.u za0.lsM))))) .p)),[⟨sUq::sPq 0::sUq::sIq::sPq 1::ru2 4 (sLq tP::sIq::sIq::ru2 7 (sTq 4::sIq::sIq::ru2 25 (.s (.o (.lit .i64 0))::sUq::sPq 2::.s (.o .nil)::sPq 3::sPq 4::ru2 31 []))),[⟨0,1,true,some [[.c 4 (nL tP)]]⟩,⟨0,4,true,some [kLq 4]⟩,⟨0,1,true,some [[.c 4 (nL tP)]]⟩,⟨0,0,true,some [[.o .nil]]⟩,⟨0,0,true,some [[.o (.ptr 5 0 0 0)]]⟩,⟨182,0,true,some []⟩],λa H=>(⟨aIq a 3,aIq a 10,aIq a 11,aNq a 19,aGq a 19,aIq a 20,hIq H 1 0 0,hIq H 1 0 1,hIq H 1 0 2,hIq H 1 0 3⟩,⟨0,aLq tP a 9,aIq a 21,hLq tP H 0 0 0,hLq tP H 2 0 0,0,[],[]⟩)⟩,⟨sUq::sPq 0::sUq::sIq::sPq 1::ru2 4 (sLq tP::sIq::sIq::ru2 7 (sTq 4::sIq::sIq::ru2 25 (.s (.o (.lit .i64 0))::sUq::sPq 2::.s (.o .nil)::sPq 3::sPq 4::ru2 31 []))),[⟨0,1,true,some [[.c 4 (nL tP)]]⟩,⟨0,4,true,some [kLq 4]⟩,⟨0,1,true,some [[.c 4 (nL tP)]]⟩,⟨0,0,true,some [[.o (.sl 5 0 (some 0) none)]]⟩,⟨0,0,true,some [[.o (.ptr 6 0 0 0)]]⟩,⟨136,4,true,none⟩,⟨182,0,true,none⟩],λa H=>(⟨aIq a 3,aIq a 10,aIq a 11,aNq a 19,aGq a 19,aIq a 20,hIq H 1 0 0,hIq H 1 0 1,hIq H 1 0 2,hIq H 1 0 3⟩,⟨1,aLq tP a 9,aIq a 21,hLq tP H 0 0 0,hLq tP H 2 0 0,slN (slT (rwT (elT H 3) 0) 0),elT H 5,elT H 6⟩)⟩],A6,[(some 2,λp s=>upq (Pa4 p s) [(22,b (decide (s.Ha7<p.Sc0)))]),(some 2,λp s=>upq (Pa5 p s) [(22,b (decide (s.Ha7<p.Sc0)))])],Lb8⟩
theorem Lb9:za1.OkM:=Lo.okM [za0.prM] (by kernel_rfl) (.cons Lb7 .nil) rfl (.cons (λa H=>by kernel_rfl) (.cons (λa H=>by kernel_rfl) .nil)) λp s=>(.sel (Nat.beq s.ph 1) (.of @C9 (λF _ _ _ _ _=>by unfold C9;(repeat' apply l6 (f:=F))<;>rfl) (by kernel_rfl)) (.of @C8 (λF _ _ _ _ _=>by unfold C8;(repeat' apply l6 (f:=F))<;>rfl) (by kernel_rfl)))
structure s8 where
 na2:Int
structure n9 where
 ph:Nat
 y7:List Pln
 p4:Int
 (d7 ta3:List Pln)
 B5:Nat
 (eh4 eh5:List (List b7))
noncomputable def Pa6(p:s8)(s:n9):St:=⟨.unk::.ptr 0 0 0 0::ra 7 (eL tP s.y7::i p.na2::i s.p4::ra 35 (i 0::.unk::.ptr 1 0 0 0::.v (.slice none 0 0)::.ptr 2 0 0 0::.ptr 3 0 0 0::ra 31 [])),[⟨0,1,[[eL tP s.d7]],true,false,0⟩,⟨0,1,[[eL tP s.ta3]],true,false,0⟩,⟨0,0,[[.v (.slice none 0 0)]],true,false,0⟩,⟨0,0,[[.ptr 4 0 0 0]],true,false,0⟩,⟨182,0,[],true,false,0⟩]⟩
noncomputable def Pa7(p:s8)(s:n9):St:=⟨.unk::.ptr 0 0 0 0::ra 7 (eL tP s.y7::i p.na2::i s.p4::ra 35 (i 0::.unk::.ptr 1 0 0 0::.v (.slice none 0 0)::.ptr 2 0 0 0::.ptr 3 0 0 0::ra 31 [])),[⟨0,1,[[eL tP s.d7]],true,false,0⟩,⟨0,1,[[eL tP s.ta3]],true,false,0⟩,⟨0,0,[[.sl 4 0 s.B5 0]],true,false,0⟩,⟨0,0,[[.ptr 5 0 0 0]],true,false,0⟩,⟨136,4,s.eh4,true,false,0⟩,⟨182,0,s.eh5,true,false,0⟩]⟩
noncomputable def Mb0(p:s8)(s:n9):St:=(sel (Nat.beq s.ph 1) (Pa7 p s) (Pa6 p s))
noncomputable def D0{α:Type}(k:n9->α)(e:Nat->α)(z:α)(p:s8)(s:n9):α:=let t1:=(lp (A6 (⟨s.p4,p.na2,s.p4,(List.length s.d7)-(W (s.p4+1)).toNat,(λk=>(λk=>(tP).row (gL tP s.d7 k)) ((W (s.p4+1)).toNat+k)),(↑((List.length s.d7)-(W (s.p4+1)).toNat):Int),(gL tP s.y7 s.p4.toNat).n.x,(gL tP s.y7 s.p4.toNat).n.y,(gL tP s.y7 s.p4.toNat).n.z,(gL tP s.y7 s.p4.toNat).b⟩:k9)) (⟨0,rt tP s.y7,0,rt tP s.d7,rt tP s.ta3,0,[],[]⟩:l7));(sl (decide (s.p4<p.na2)) (sl (inB s.p4 (List.length s.y7)) (sl (inB (W (s.p4+1)) ((List.length s.d7)+1)) (sl ((cnE tP s.y7)&&((cnE tP s.d7)&&((cnE tP s.ta3)&&true))) (sl (Nat.beq t1.1 1) (k ⟨0,t1.2.y7,W (s.p4+1),t1.2.d7,t1.2.ia8,0,[],[]⟩) (sl (Nat.beq t1.1 2) (k ⟨1,t1.2.y7,W (s.p4+1),t1.2.d7,t1.2.ia8,t1.2.Yb4,t1.2.eh5,t1.2.eh6⟩) z)) z) z) z) (e 1))
noncomputable def D1{α:Type}(k:n9->α)(e:Nat->α)(z:α)(p:s8)(s:n9):α:=let t1:=(lp (A6 (⟨s.p4,p.na2,s.p4,(List.length s.d7)-(W (s.p4+1)).toNat,(λk=>(λk=>(tP).row (gL tP s.d7 k)) ((W (s.p4+1)).toNat+k)),(↑((List.length s.d7)-(W (s.p4+1)).toNat):Int),(gL tP s.y7 s.p4.toNat).n.x,(gL tP s.y7 s.p4.toNat).n.y,(gL tP s.y7 s.p4.toNat).n.z,(gL tP s.y7 s.p4.toNat).b⟩:k9)) (⟨1,rt tP s.y7,0,rt tP s.d7,rt tP s.ta3,s.B5,s.eh4,s.eh5⟩:l7));(sl (decide (s.p4<p.na2)) (sl (inB s.p4 (List.length s.y7)) (sl (inB (W (s.p4+1)) ((List.length s.d7)+1)) (sl ((cnE tP s.y7)&&((cnE tP s.d7)&&((cnE tP s.ta3)&&true))) (sl (Nat.beq t1.1 1) (k ⟨0,t1.2.y7,W (s.p4+1),t1.2.d7,t1.2.ia8,0,[],[]⟩) (sl (Nat.beq t1.1 2) (k ⟨1,t1.2.y7,W (s.p4+1),t1.2.d7,t1.2.ia8,t1.2.Yb4,t1.2.eh5,t1.2.eh6⟩) z)) z) z) z) (e 2))
noncomputable def A7(p:s8)(s:n9):Stp n9:=(sel (Nat.beq s.ph 1) (D1 .next .exit .fail p s) (D0 .next .exit .fail p s))
noncomputable def za2:Lo s8 n9:=⟨En la0,0,ye2,[1,1,1,0,1,4,4,1,4,4],[1,9,10,11,47,49,50,51,52],.s .p (.s .p (.s (.b (.s .p (.s .p (.b (.u za1.lsM))))) .p)),[⟨sUq::sPq 0::ru2 7 (sLq tP::sIq::sIq::ru2 35 (.s (.o (.lit .i64 0))::sUq::sPq 1::.s (.o .nil)::sPq 2::sPq 3::ru2 31 [])),[⟨0,1,true,some [[.c 4 (nL tP)]]⟩,⟨0,1,true,some [[.c 4 (nL tP)]]⟩,⟨0,0,true,some [[.o .nil]]⟩,⟨0,0,true,some [[.o (.ptr 4 0 0 0)]]⟩,⟨182,0,true,some []⟩],λa H=>(⟨aIq a 10⟩,⟨0,aLq tP a 9,aIq a 11,hLq tP H 0 0 0,hLq tP H 1 0 0,0,[],[]⟩)⟩,⟨sUq::sPq 0::ru2 7 (sLq tP::sIq::sIq::ru2 35 (.s (.o (.lit .i64 0))::sUq::sPq 1::.s (.o .nil)::sPq 2::sPq 3::ru2 31 [])),[⟨0,1,true,some [[.c 4 (nL tP)]]⟩,⟨0,1,true,some [[.c 4 (nL tP)]]⟩,⟨0,0,true,some [[.o (.sl 4 0 (some 0) none)]]⟩,⟨0,0,true,some [[.o (.ptr 5 0 0 0)]]⟩,⟨136,4,true,none⟩,⟨182,0,true,none⟩],λa H=>(⟨aIq a 10⟩,⟨1,aLq tP a 9,aIq a 11,hLq tP H 0 0 0,hLq tP H 1 0 0,slN (slT (rwT (elT H 2) 0) 0),elT H 4,elT H 5⟩)⟩],A7,[(some 0,λp s=>upq (Pa6 p s) [(12,b (decide (s.p4<p.na2)))]),(some 0,λp s=>upq (Pa7 p s) [(12,b (decide (s.p4<p.na2)))])],Mb0⟩
theorem Mb1:za2.OkM:=Lo.okM [za1.prM] (by kernel_rfl) (.cons Lb9 .nil) rfl (.cons (λa H=>by kernel_rfl) (.cons (λa H=>by kernel_rfl) .nil)) λp s=>(.sel (Nat.beq s.ph 1) (.of @D1 (λF _ _ _ _ _=>by unfold D1;(repeat' apply l6 (f:=F))<;>rfl) (by kernel_rfl)) (.of @D0 (λF _ _ _ _ _=>by unfold D0;(repeat' apply l6 (f:=F))<;>rfl) (by kernel_rfl)))
noncomputable def da6(x:List Pln):Option (b7×List b8):=let t1:=(lp (A7 (⟨(↑(List.length x):Int)⟩:s8)) (⟨0,rt tP x,0,rt tP x,rt tP x,0,[],[]⟩:n9));(sl ((cnE tP x)&&((cnE tP x)&&((cnE tP x)&&true))) (sl (Nat.beq t1.1 1) (some (.v (.slice none 0 0),[])) (sl (Nat.beq t1.1 2) (some (.sl 0 0 t1.2.B5 0,[⟨136,4,t1.2.eh4,true,false,0⟩])) none)) none)
noncomputable def da7(x:List Pln):List Pt:=N6 (one (r1L tX)) (da6 x)
noncomputable def da8(x:List Pln):Bool:=okO (one (r1L tX)) (da6 x)
noncomputable def Ha3:Sum:=Y0 (P0 tP) (λx=>.guard (da8 x) (.ret ((one (r1L tX)).enc (da7 x),[])))
theorem bb5:g9 prog G 167 Ha3:=Ja3 (bd hg6 Qb2) (one (r1L tX)) (o:=da6) λx=>Xe2 (.s .p (.s .p (.s .p (.s (.s .p (.b (.i (.s .p (.b (.u za2.lsM)))))) .p)))) [za2.prM] (by kernel_rfl) (.cons Mb1 .nil) (by kernel_rfl)
noncomputable def Zb3:List (Nat×Sum):=[]
theorem Nc9:i7 prog G Zb3:=trivial
structure za3 where
 is0:Int
 Ce8:List Int
 is8:Int
structure P4 where
 is9:Int
noncomputable def Jb0(p:za3)(s:P4):St:=⟨i p.is0::ra 6 (eL tI p.Ce8::i p.is8::i s.is9::ra 13 []),[]⟩
noncomputable def oa7{α:Type}(k:P4->α)(e:Nat->α)(z:α)(p:za3)(s:P4):α:=(sl (decide (s.is9<p.is8)) (sl (inB s.is9 (List.length p.Ce8)) (sl (decide ((gL tI p.Ce8 s.is9.toNat)<(W (0-p.is0)))) (e 1) (sl (decide ((gL tI p.Ce8 s.is9.toNat)>p.is0)) (e 1) (k ⟨W (s.is9+1)⟩))) z) (e 2))
noncomputable def ua1(p:za3)(s:P4):Stp P4:=oa7 .next .exit .fail p s
noncomputable def ib2:Lo za3 P4:=⟨En Zb3,0,Bf6,[1,0,1,4,4],[0,7,8,9],.p,[⟨sIq::ru2 6 (sLq tI::sIq::sIq::ru2 13 []),[],λa H=>(⟨aIq a 0,aLq tI a 7,aIq a 8⟩,⟨aIq a 9⟩)⟩],ua1,[(none,λp s=>⟨[b false],[]⟩),(some 0,λp s=>upq (Jb0 p s) [(10,b (decide (s.is9<p.is8)))])],Jb0⟩
theorem Fc6:ib2.Ok:=Lo.ok [] (by kernel_rfl) .nil rfl (.cons (λa H=>by kernel_rfl) .nil) λp s=>(.of @oa7 (λF _ _ _ _ _=>by unfold oa7;(repeat' apply l6 (f:=F))<;>rfl) (by kernel_rfl))
noncomputable def Ka4(x:Int)(y:List Int):Option (b7×List b8):=let t1:=(lp (ua1 (⟨x,rt tI y,(↑(List.length y):Int)⟩:za3)) (⟨0⟩:P4));(sl ((cnE tI y)&&true) (sl (Nat.beq t1.1 1) (some (b false,[])) (sl (Nat.beq t1.1 2) (some (b true,[])) none)) none)
noncomputable def Ka5(x:Int)(y:List Int):Bool:=N6 (one r1B) (Ka4 x y)
noncomputable def Ka6(x:Int)(y:List Int):Bool:=okO (one r1B) (Ka4 x y)
noncomputable def ic4:Sum:=oa3 cI (P0 tI) (λx y=>.guard (Ka6 x y) (.ret ((one r1B).enc (Ka5 x y),[])))
theorem Xc5:g9 prog G 138 ic4:=mb9 (bd fg6 Nc9) (one r1B) (o:=Ka4) λx y=>wa1 (.s .p (.s (.s .p (.b (.u ib2.ls))) .p)) [ib2.pr] (by kernel_rfl) (.cons Fc6 .nil) (by kernel_rfl)
noncomputable def Fc7:List (Nat×Sum):=[]
theorem xc1:i7 prog G Fc7:=trivial
noncomputable def Oa1(x:Int):Int:=(if (W (0-x))>x then (W (0-x)) else x)
noncomputable def Qb3:Sum:=Y0 cI (λx=>.ret ((one r1I).enc (Oa1 x),[]))
theorem Fc8:g9 prog G 183 Qb3:=Hb9 (bd ig5 xc1) λx=>v8 (by kernel_rfl)
noncomputable def ib3:List (Nat×Sum):=[(183,Qb3)]
theorem Fc9:i7 prog G ib3:=⟨Fc8,trivial⟩
structure ia1 where
 fb7:List Int
 (is7 is8:Int)
structure R7 where
 (is3 is5:Int)
noncomputable def Cb0(p:ia1)(s:R7):St:=⟨ra 3 (i s.is3::.unk::i s.is5::eL tI p.fb7::i p.is7::i p.is8::ra 15 []),[]⟩
noncomputable def ka3{α:Type}(k:R7->α)(e:Nat->α)(z:α)(p:ia1)(s:R7):α:=(sl (decide (s.is5>0)) (sl (s.is5==0) z (k ⟨s.is5,Int.tmod s.is3 s.is5⟩)) (e 1))
noncomputable def ea5(p:ia1)(s:R7):Stp R7:=ka3 .next .exit .fail p s
noncomputable def bb6:Lo ia1 R7:=⟨En ib3,0,Xe0,[1,1,0,1,4,4,1,1,0,4,1,1,1,4,4],[3,5,6,7,8],.p,[⟨ru2 3 (sIq::sUq::sIq::sLq tI::sIq::sIq::ru2 15 []),[],λa H=>(⟨aLq tI a 6,aIq a 7,aIq a 8⟩,⟨aIq a 3,aIq a 5⟩)⟩],ea5,[(some 2,λp s=>upq (Cb0 p s) [(16,i s.is5),(17,b (decide (s.is5>0)))])],Cb0⟩
theorem xc2:bb6.Ok:=Lo.ok [] (by kernel_rfl) .nil rfl (.cons (λa H=>by kernel_rfl) .nil) λp s=>(.of @ka3 (λF _ _ _ _ _=>by unfold ka3;(repeat' apply l6 (f:=F))<;>rfl) (by kernel_rfl))
structure ua2 where
 is7:Int
structure M4 where
 is3:Int
 fb7:List Int
 is8:Int
noncomputable def Cb1(p:ua2)(s:M4):St:=⟨ra 3 (i s.is3::.unk::.unk::eL tI s.fb7::i p.is7::i s.is8::ra 15 []),[]⟩
noncomputable def ka4{α:Type}(k:M4->α)(e:Nat->α)(z:α)(p:ua2)(s:M4):α:=let t1:=(Oa1 (gL tI s.fb7 s.is8.toNat));let t2:=(lp (ea5 (⟨rt tI s.fb7,p.is7,s.is8⟩:ia1)) (⟨s.is3,t1⟩:R7));(sl (decide (s.is8<p.is7)) (sl (inB s.is8 (List.length s.fb7)) (sl ((gL tI s.fb7 s.is8.toNat)==(-9223372036854775808)) (e 1) (sl ((cnE tI s.fb7)&&true) (sl (Nat.beq t2.1 1) (k ⟨t2.2.is3,rt tI s.fb7,W (s.is8+1)⟩) z) z)) z) (e 2))
noncomputable def oa8(p:ua2)(s:M4):Stp M4:=ka4 .next .exit .fail p s
noncomputable def bb7:Lo ua2 M4:=⟨En ib3,0,Xe0,[1,1,0,1,4,4],[3,6,7,8],.s .p (.s .p (.s (.b (.s .p (.s .p (.s .p (.b (.u bb6.ls)))))) .p)),[⟨ru2 3 (sIq::sUq::sUq::sLq tI::sIq::sIq::ru2 15 []),[],λa H=>(⟨aIq a 7⟩,⟨aIq a 3,aLq tI a 6,aIq a 8⟩)⟩],oa8,[(none,λp s=>⟨[i 0],[]⟩),(some 0,λp s=>upq (Cb1 p s) [(9,b (decide (s.is8<p.is7)))])],Cb1⟩
theorem xc3:bb7.Ok:=Lo.ok [bb6.pr] (by kernel_rfl) (.cons xc2 .nil) rfl (.cons (λa H=>by kernel_rfl) .nil) λp s=>(.of @ka4 (λF _ _ _ _ _=>by unfold ka4;(repeat' apply l6 (f:=F))<;>rfl) (by kernel_rfl))
noncomputable def Ea3(x:List Int):Option (b7×List b8):=let t1:=(lp (oa8 (⟨(↑(List.length x):Int)⟩:ua2)) (⟨0,rt tI x,0⟩:M4));(sl ((cnE tI x)&&true) (sl (Nat.beq t1.1 1) (some (i 0,[])) (sl (Nat.beq t1.1 2) (some (i t1.2.is3,[])) none)) none)
noncomputable def Va4(x:List Int):Int:=N6 (one r1I) (Ea3 x)
noncomputable def Va5(x:List Int):Bool:=okO (one r1I) (Ea3 x)
noncomputable def Zb4:Sum:=Y0 (P0 tI) (λx=>.guard (Va5 x) (.ret ((one r1I).enc (Va4 x),[])))
theorem Oc0:g9 prog G 186 Zb4:=Ja3 (bd ig7 Fc9) (one r1I) (o:=Ea3) λx=>wa1 (.s .p (.s .p (.s (.s .p (.b (.u bb7.ls))) .p))) [bb7.pr] (by kernel_rfl) (.cons xc3 .nil) (by kernel_rfl)
noncomputable def kd3:List (Nat×Sum):=[(138,ic4),(186,Zb4)]
theorem Xc6:i7 prog G kd3:=⟨Xc5,Oc0,trivial⟩
noncomputable def Sa9(x:Pln):Option (b7×List b8):=let t1:=(Ka5 4608 [x.n.x,x.n.y,x.n.z]);let t2:=(Va4 [x.n.x,x.n.y,x.n.z]);let t3:=(Ka5 2097152 [x.b]);(sl (Ka6 4608 [x.n.x,x.n.y,x.n.z]) (sl t1 (sl (Va5 [x.n.x,x.n.y,x.n.z]) (sl (t2==1) (sl (Ka6 2097152 [x.b]) (some (b t3,[])) none) (some (b false,[]))) none) (some (b false,[]))) none)
noncomputable def lb2(x:Pln):Bool:=N6 (one r1B) (Sa9 x)
noncomputable def lb3(x:Pln):Bool:=okO (one r1B) (Sa9 x)
noncomputable def sc7:Sum:=Y0 (ia0 tP) (λx=>.guard (lb3 x) (.ret ((one r1B).enc (lb2 x),[])))
theorem kd4:g9 prog G 140 sc7:=Ja3 (bd fg7 Xc6) (one r1B) (o:=Sa9) λx=>v8 (by kernel_rfl)
noncomputable def Xc7:List (Nat×Sum):=[(140,sc7)]
theorem Oc1:i7 prog G Xc7:=⟨kd4,trivial⟩
noncomputable def Ka7(x:Pln):Option (b7×List b8):=let t1:=(lb2 x);(sl (lb3 x) (some (b (!t1),[])) none)
noncomputable def bb8(x:Pln):Bool:=N6 (one r1B) (Ka7 x)
noncomputable def bb9(x:Pln):Bool:=okO (one r1B) (Ka7 x)
noncomputable def ic5:Sum:=Y0 (ia0 tP) (λx=>.guard (bb9 x) (.ret ((one r1B).enc (bb8 x),[])))
theorem Xc8:g9 prog G 149 ic5:=Ja3 (bd gg0 Oc1) (one r1B) (o:=Ka7) λx=>v8 (by kernel_rfl)
structure ca0 where
 b9:List Pln
noncomputable def Ka8:List (Nat×Sum):=[(149,ic5)]
theorem wb0:i7 prog G Ka8:=⟨Xc8,trivial⟩
structure M5 where
 b9:List Pln
 is7:Int
structure p7 where
 is8:Int
noncomputable def Ea4(p:M5)(s:p7):St:=⟨eL tP p.b9::.fn 149 []::ra 5 (i p.is7::i s.is8::ra 10 []),[]⟩
noncomputable def H4{α:Type}(k:p7->α)(e:Nat->α)(z:α)(p:M5)(s:p7):α:=let t1:=(bb8 (gL tP p.b9 s.is8.toNat));(sl (decide (s.is8<p.is7)) (sl (inB s.is8 (List.length p.b9)) (sl (bb9 (gL tP p.b9 s.is8.toNat)) (sl t1 (e 1) (k ⟨W (s.is8+1)⟩)) z) z) (e 2))
noncomputable def J8(p:M5)(s:p7):Stp p7:=H4 .next .exit .fail p s
noncomputable def la1:Lo M5 p7:=⟨En Ka8,0,be8,[1,0,1,4,4],[0,1,7,8],.p,[⟨sLq tP::.s (.o (.fn 149))::ru2 5 (sIq::sIq::ru2 10 []),[],λa H=>(⟨aLq tP a 0,aIq a 7⟩,⟨aIq a 8⟩)⟩],J8,[(none,λp s=>⟨[i s.is8],[]⟩),(some 0,λp s=>upq (Ea4 p s) [(9,b (decide (s.is8<p.is7)))])],Ea4⟩
theorem sb3:la1.Ok:=Lo.ok [] (by kernel_rfl) .nil rfl (.cons (λa H=>by kernel_rfl) .nil) λp s=>(.of @H4 (λF _ _ _ _ _=>by unfold H4;(repeat' apply l6 (f:=F))<;>rfl) (by kernel_rfl))
structure ca1 where
 alt:Nat
 is0:Int
noncomputable def I5{α:Type}(kk:ca1->α)(x:ca0):α:=let t1:=(lp (J8 (⟨rt tP x.b9,(↑(List.length x.b9):Int)⟩:M5)) (⟨0⟩:p7));(sl ((cnE tP x.b9)&&true) (sl (Nat.beq t1.1 1) (kk ⟨1,t1.2.is8⟩) (sl (Nat.beq t1.1 2) (kk ⟨1,-1⟩) (kk ⟨0,0⟩))) (kk ⟨0,0⟩))
noncomputable def ra9(x:ca0):ca1:=I5 (λr=>r) x
noncomputable def oa9(x:ca0)(r:ca1):DT (b7×List b8):=(.ite (Nat.beq r.alt 1) (.ret (i r.is0,[])) .fail)
theorem Fb9{α β:Type}(F:α->β)(kk:ca1->α)(x:ca0):F (I5 kk x)=I5 (λr=>F (kk r)) x:=by unfold I5;(repeat' apply l6 (f:=F))<;>rfl
noncomputable def Pa8:Sum:=Ra9 ⟨[sLq tP,.s (.o (.fn 149))],[],λa H=>(⟨aLq tP a 0⟩,())⟩ (λx=>oa9 x (ra9 x))
theorem Cb2:g9 prog G 139 Pa8:=J4 (enc:=λx=>⟨[eL tP x.b9,.fn 149 []],[]⟩) (λa H=>by kernel_rfl) (bd rf7 wb0) λx=>wa1 (.s .p (.s (.s .p (.b (.u la1.ls))) .p)) [la1.pr] (by kernel_rfl) (.cons sb3 .nil) (Qha (b:=I5 (λr=>(oa9 x r).run) x) (by kernel_rfl) (Fb9 (λr=>(oa9 x r).run) (λr=>r) x).symm)
structure T6 where
 b9:List Pln
noncomputable def ob4:List (Nat×Sum):=[(139,Pa8)]
theorem ib4:i7 prog G ob4:=⟨Cb2,trivial⟩
structure T7 where
 alt:Nat
 bs0:Bool
noncomputable def D6{α:Type}(kk:T7->α)(x:T6):α:=let t1:=(ra9 ⟨rt tP x.b9⟩);(sl ((cnE tP x.b9)&&true) (sl (Nat.beq t1.alt 1) (kk ⟨1,decide (t1.is0>=0)⟩) (kk ⟨0,false⟩)) (kk ⟨0,false⟩))
noncomputable def ja1(x:T6):T7:=D6 (λr=>r) x
noncomputable def ga5(x:T6)(r:T7):DT (b7×List b8):=(.ite (Nat.beq r.alt 1) (.ret (b r.bs0,[])) .fail)
theorem sb4{α β:Type}(F:α->β)(kk:T7->α)(x:T6):F (D6 kk x)=D6 (λr=>F (kk r)) x:=by unfold D6;(repeat' apply l6 (f:=F))<;>rfl
noncomputable def Ea5:Sum:=Ra9 ⟨[sLq tP,.s (.o (.fn 149))],[],λa H=>(⟨aLq tP a 0⟩,())⟩ (λx=>ga5 x (ja1 x))
theorem ob5:g9 prog G 86 Ea5:=J4 (enc:=λx=>⟨[eL tP x.b9,.fn 149 []],[]⟩) (λa H=>by kernel_rfl) (bd b86 ib4) λx=>v8 (Qha (b:=D6 (λr=>(ga5 x r).run) x) (by kernel_rfl) (sb4 (λr=>(ga5 x r).run) (λr=>r) x).symm)
noncomputable def xd2:List (Nat×Sum):=[(86,Ea5)]
theorem kd5:i7 prog G xd2:=⟨ob5,trivial⟩
noncomputable def cb0(x:List Pln):Option (b7×List b8):=let t1:=(ja1 ⟨rt tP x⟩);(sl (decide ((↑(List.length x):Int)>48)) (some (i 2,[])) (sl ((cnE tP x)&&true) (sl (Nat.beq t1.alt 1) (sl t1.bs0 (some (i 12,[])) (some (i 0,[]))) none) none))
noncomputable def ua3(x:List Pln):Int:=N6 (one r1I) (cb0 x)
noncomputable def Oa2(x:List Pln):Bool:=okO (one r1I) (cb0 x)
noncomputable def wb1:Sum:=Y0 (P0 tP) (λx=>.guard (Oa2 x) (.ret ((one r1I).enc (ua3 x),[])))
theorem Mb2:g9 prog G 97 wb1:=Ja3 (bd b97 kd5) (one r1I) (o:=cb0) λx=>v8 (by kernel_rfl)
noncomputable def Xc9:List (Nat×Sum):=[(97,wb1)]
theorem Oc2:i7 prog G Xc9:=⟨Mb2,trivial⟩
noncomputable def Ka9(x:List Pln):Option (b7×List b8):=let t1:=(ua3 (rt tP x));(sl (okE tP x) (sl (Oa2 (rt tP x)) (some (b (t1 != 0),[])) none) none)
noncomputable def cb1(x:List Pln):Bool:=N6 (one r1B) (Ka9 x)
noncomputable def cb2(x:List Pln):Bool:=okO (one r1B) (Ka9 x)
noncomputable def ic6:Sum:=Y0 (P0 tP) (λx=>.guard (cb2 x) (.ret ((one r1B).enc (cb1 x),[])))
theorem Yc0:g9 prog G 165 ic6:=Ja3 (bd hg4 Oc2) (one r1B) (o:=Ka9) λx=>v8 (by kernel_rfl)
end Go.Ev.Ce
namespace Go.Proofs
open Go.Shelf
set_option maxRecDepth 100000 in
def Ce.growP_ren:Go.Shelf.Ren:=⟨fun | 4=>193 | n=>n,fun | 22=>24 | 25=>73 | 3=>3 | 4=>4 | 9=>9 | 20=>20 | 0=>0 | n=>n,fun | n=>n⟩
set_option maxRecDepth 100000 in
theorem Ce.growP:Go.Proofs.Lays8.n4 Tryz.prog Ce.growP_ren:={
 mixed:=by kernel_rfl
 f4:=⟨Tryz.f193.name,by decide,Tryz.func193.trans (congrArg some (by kernel_rfl))⟩
 t0:=Tryz.underlying0
 a0:=Tryz.isAgg0
 z0:=Tryz.sizeOf0
 v0:=Tryz.zeroValue0
 t3:=Tryz.underlying3
 a3:=Tryz.isAgg3
 z3:=Tryz.sizeOf3
 v3:=Tryz.zeroValue3
 t4:=Tryz.underlying4
 a4:=Tryz.isAgg4
 z4:=Tryz.sizeOf4
 v4:=Tryz.zeroValue4
 t9:=Tryz.underlying9
 a9:=Tryz.isAgg9
 z9:=Tryz.sizeOf9
 v9:=Tryz.zeroValue9
 t20:=Tryz.underlying20
 a20:=Tryz.isAgg20
 z20:=Tryz.sizeOf20
 v20:=Tryz.zeroValue20
 t22:=Tryz.underlying24
 a22:=Tryz.isAgg24
 z22:=Tryz.sizeOf24
 v22:=Tryz.zeroValue24 }
end Go.Proofs
namespace Go.Ev.Ce
open Go Go.Ev Go.Proofs
noncomputable def Pd5:List b7:=[i 0,i 0,i 0,i 0]
noncomputable def Ra2:Sum:=λargs blks=>match args,blks with
 | [.v (.slice none 0 0), .v (.int .i64 n)], [] => .ite (n == 0) (.ret (.v (.slice none 0 0), []))
   (.guard (Bool.and (decide (0<n)) (Nat.ble (n.toNat*32) room)) (.ret (.sl 0 0 0 0,[⟨73,4,List.replicate n.toNat Pd5,true,false,0⟩])))
 |_,_=>.fail
theorem z73:zeT Tryz.prog 73=some Pd5:=by kernel_rfl
theorem s73:szT Tryz.prog 73=4:=by kernel_rfl
theorem y73:byT Tryz.prog 73=32:=by kernel_rfl
theorem t25:Ce.growP_ren.t 25=73:=by kernel_rfl
theorem f4:Ce.growP_ren.f 4=193:=by kernel_rfl
set_option maxRecDepth 100000 in
theorem ic7:g9 prog G 193 Ra2:=by
 intro args blks r out he W ρ F w args' hH hlen hargs hG;refine⟨⟨_,Tryz.func193,by kernel_rfl,of_decide_eq_true (by kernel_rfl)⟩,?_⟩
 unfold Ra2 at he
 split at he
 case h_2=>cases he
 rename_i n
 match args',hlen with
 |[v0,v1],_ =>
 have e0:=ka1 (hargs 0 _ _ rfl rfl);have e1:=ka1 (hargs 1 _ _ rfl rfl);subst e0 e1
 rcases DT.run_ite_some he with⟨h0,he⟩|⟨h0,he⟩
 ·have h0:n=0:=by simpa using h0
  subst h0;injection he with he;injection he with q1 q2;subst q1 q2
  have:=Any8.slices_Grow_room Ce.growP none 0 0 0 w (Qhf _) (by omega) (by omega) (by omega)
  rw[f4] at this;refine this.mono λe w' ⟨h1,h2⟩=>?_
  subst h1 h2;exact⟨_,rfl,ρ,F,.refl,hH,.ofv _⟩
 ·obtain⟨hg,he⟩:=DT.run_guard_some he;rw[Bool.and_eq_true,decide_eq_true_eq] at hg;obtain⟨hpos,hroom⟩:=hg;have hroom:=Nat.le_of_ble_eq_true hroom;unfold room at hroom;obtain⟨m,rfl⟩:=Int.eq_ofNat_of_zero_le (Int.le_of_lt hpos);have hm:0<m:=by omega
  have he:some (b7.sl 0 0 0 0,[(⟨73,4,List.replicate m Pd5,true,false,0⟩:b8)])=some (r,out):=he;injection he with he;injection he with q1 q2;subst q1 q2
  obtain⟨ti,zv,hi,hzz,hzr,hone⟩:=gb9 (E:=En []) z73;have hi:Tryz.prog.info? 73=some ti:=hi;have hts:ti.size=4:=by have:=s73;simp only[szT,hi] at this;exact this
  have hby:ti.bytes=32:=by have:=y73;simp only[byT,hi] at this;exact this
  have hzs:zv.cells.size=4:=by
   have:=congrArg List.length hzr
   simpa [Pd5] using this.symm
  have hroom':m*32<=140737488355328:=hroom
  have:=Any8.slices_Grow_grow Ce.growP ti zv (by rw[t25];exact hi) hzz (by omega) none 0 0 m [] w (Qhf _) (by omega) (by rw[hby];omega) (by omega) (by simp) (λ_=>rfl) (λa ha=>by cases ha)
  rw[f4,t25] at this;refine this.mono λe w' ⟨h1,h2⟩=>?_
  have hcap:=grownCap_ge w (0+m) 0 73;have hcap2:=grownCap_le_maxLen w (0+m) 0 73 (by unfold maxLen;omega)
  subst h1;generalize grownCap w (0+m) 0 73=G' at *
  have hsz:∀q,(Builtin.zeroCells zv.cells q).size=q*4:=λq=>by simp[Builtin.zeroCells,hzs]
  have hcc:(#[]++Builtin.zeroCells zv.cells (0+m-0)++Builtin.zeroCells zv.cells (G'-(0+m))).size=G'*4:=by
   rw[Array.size_append,Array.size_append,hsz,hsz];simp;omega
  have hobj:w'.heap[w.heap.size]?=some (.cells (#[]++Builtin.zeroCells zv.cells (0+m-0)++Builtin.zeroCells zv.cells (G'-(0+m))) 73 (0,0)):=by
   rw[h2];exact World.alloc_heap_new w.drew _
  have hold:∀k,k<w.heap.size->w'.heap[k]?=w.heap[k]?:=λk hk=>by
   rw[h2];simp only[World.alloc,Array.getElem?_push,World.drew];rw[if_neg (by omega)]
  have hws:w'.heap.size=w.heap.size+1:=by rw[h2];exact Array.size_push ..
  obtain⟨h6,h7⟩:=hH.newAt (w':=w') (by rw[h2];rfl) (by rw[h2];rfl) (by rw[h2];rfl) (by rw[h2];exact Nat.le_succ _) (by omega) hold w.heap.size (Qhf _) 73 4 (List.replicate m Pd5) _ 73 hobj
   (λj r hr=>by rw[Qhe] at hr;split at hr<;>cases hr;rfl) (by rw[List.length_replicate,hcc];omega)
   (λj r c x hr hx=>by
    have hjm:j<m:=by
     have:=(Qhc.1 hr).1
     simpa using this
    rw[Qhe,if_pos hjm] at hr;injection hr with hr;subst hr;have hc4:c<4:=(Qhc.1 hx).1;rw[hzr,List.getElem?_map] at hx;have hcz:c<zv.cells.size:=by omega
    have hq:zv.cells.toList[c]?=some zv.cells[c]:=by simp[hcz]
    rw[hq] at hx;injection hx with hx;subst hx;refine⟨zv.cells[c],?_,.v _ (hone _ (by simp))⟩
    have hlt:j*4+c<m*4:=by omega
    rw[Array.append_assoc,Array.empty_append,Array.getElem?_append_left (by rw[hsz];omega)]
    have hm4:(j*4+c) % 4=c:=by omega
    simp only[Builtin.zeroCells,hzs];rw[Array.getElem?_map,Array.getElem?_range];rw[if_pos (by omega)]
    simp[hm4,hcz])
   (λ_=>rfl)
  refine⟨_,rfl,_,F,h6,h7,.val (.cell ?_)⟩;refine .sl 0 0 0 0 _ _ { et:=73,es:=4,elems:=List.replicate m Pd5,own:=true,dead:=false,g:=0 } rfl rfl (Qhf _) (Nat.zero_le _) rfl hcap2 λ_=>⟨.inr ?_,?_,by simp⟩
  ·simp[ρnew]
  ·simp only[ρnew,List.length_nil,if_true];rw[hcc,Nat.zero_add]
end Go.Ev.Ce
namespace Go.Ev.Ce
open Go Go.Ev Go.Ev.L Go.Proofs
set_option maxRecDepth 100000
noncomputable def Ca2:List (Nat×Sum):=[(193,Ra2)]
theorem Qb4:i7 prog G Ca2:=⟨ic7,trivial⟩
structure V5 where
 (Q8 Fb5:List (List Pln))
 na2:Int
structure s9 where
 (is3 p4:Int)
noncomputable def Ta0(p:V5)(s:s9):St:=⟨eL (tLs tP) p.Q8::.unk::.unk::i s.is3::ra 5 (eL (tLs tP) p.Fb5::i p.na2::i s.p4::ra 24 []),[]⟩
noncomputable def R3{α:Type}(k:s9->α)(e:Nat->α)(z:α)(p:V5)(s:s9):α:=(sl (decide (s.p4<p.na2)) (sl (inB s.p4 (List.length p.Fb5)) (sl (decide ((W (s.is3+(↑(List.length (gL (tLs tP) p.Fb5 s.p4.toNat)):Int)))<0)) z (k ⟨W (s.is3+(↑(List.length (gL (tLs tP) p.Fb5 s.p4.toNat)):Int)),W (s.p4+1)⟩)) z) (e 1))
noncomputable def L4(p:V5)(s:s9):Stp s9:=R3 .next .exit .fail p s
noncomputable def za4:Lo V5 s9:=⟨En Ca2,0,We8,[1,1,0,1,4,4],[0,3,9,10,11],.p,[⟨.s (.c 1 (nL (tLs tP)))::sUq::sUq::sIq::ru2 5 (.s (.c 1 (nL (tLs tP)))::sIq::sIq::ru2 24 []),[],λa H=>(⟨rL (tLs tP) (slT a 0),rL (tLs tP) (slT a 9),aIq a 10⟩,⟨aIq a 3,aIq a 11⟩)⟩],L4,[(some 0,λp s=>upq (Ta0 p s) [(12,b (decide (s.p4<p.na2)))])],Ta0⟩
theorem Mb3:za4.OkM:=Lo.okM [] (by kernel_rfl) .nil rfl (.cons (λa H=>by kernel_rfl) .nil) λp s=>(.of @R3 (λF _ _ _ _ _=>by unfold R3;(repeat' apply l6 (f:=F))<;>rfl) (by kernel_rfl))
structure y5 where
 Ia4:List (List Pln)
 Bd2:Int
structure n5 where
 ph:Nat
 Ra6:Int
 ns6:Nat
 eh0:List (List b7)
noncomputable def Pa9(p:y5)(s:n5):St:=⟨ra 6 (.v (.slice none 0 0)::ra 18 (eL (tLs tP) p.Ia4::i p.Bd2::i s.Ra6::ra 8 [])),[]⟩
noncomputable def Qa0(p:y5)(s:n5):St:=⟨ra 6 (.sl 0 0 s.ns6 0::ra 18 (eL (tLs tP) p.Ia4::i p.Bd2::i s.Ra6::ra 8 [])),[⟨73,4,s.eh0,true,false,0⟩]⟩
noncomputable def Mb4(p:y5)(s:n5):St:=(sel (Nat.beq s.ph 1) (Qa0 p s) (Pa9 p s))
noncomputable def D2{α:Type}(k:n5->α)(e:Nat->α)(z:α)(p:y5)(s:n5):α:=(sl (decide (s.Ra6<p.Bd2)) (sl (inB s.Ra6 (List.length p.Ia4)) (sl (Nat.beq (len (o8 (λk=>(tP).row (gL tP (gL (tLs tP) p.Ia4 s.Ra6.toNat) k)) (List.range (List.length (gL (tLs tP) p.Ia4 s.Ra6.toNat))))) 0) (k ⟨0,W (s.Ra6+1),0,[]⟩) z) z) (e 1))
noncomputable def D3{α:Type}(k:n5->α)(e:Nat->α)(z:α)(p:y5)(s:n5):α:=(sl (decide (s.Ra6<p.Bd2)) (sl (inB s.Ra6 (List.length p.Ia4)) (sl (Nat.ble (s.ns6+(len (o8 (λk=>(tP).row (gL tP (gL (tLs tP) p.Ia4 s.Ra6.toNat) k)) (List.range (List.length (gL (tLs tP) p.Ia4 s.Ra6.toNat)))))) (len s.eh0)) (k ⟨1,W (s.Ra6+1),(s.ns6+(len (o8 (λk=>(tP).row (gL tP (gL (tLs tP) p.Ia4 s.Ra6.toNat) k)) (List.range (List.length (gL (tLs tP) p.Ia4 s.Ra6.toNat)))))),(app (N8 s.eh0 s.ns6) (app (o8 (λk=>(tP).row (gL tP (gL (tLs tP) p.Ia4 s.Ra6.toNat) k)) (List.range (List.length (gL (tLs tP) p.Ia4 s.Ra6.toNat)))) (l0 s.eh0 (s.ns6+(len (o8 (λk=>(tP).row (gL tP (gL (tLs tP) p.Ia4 s.Ra6.toNat) k)) (List.range (List.length (gL (tLs tP) p.Ia4 s.Ra6.toNat)))))))))⟩) z) z) (e 2))
noncomputable def E7(p:y5)(s:n5):Stp n5:=(sel (Nat.beq s.ph 1) (D3 .next .exit .fail p s) (D2 .next .exit .fail p s))
noncomputable def za5:Lo y5 n5:=⟨En Ca2,0,We8,[1,1,1,1,0,1,4,4],[6,25,26,27],.p,[⟨ru2 6 (.s (.o .nil)::ru2 18 (.s (.c 1 (nL (tLs tP)))::sIq::sIq::ru2 8 [])),[],λa H=>(⟨rL (tLs tP) (slT a 25),aIq a 26⟩,⟨0,aIq a 27,0,[]⟩)⟩,⟨ru2 6 (.s (.o (.sl 0 0 (some 0) none))::ru2 18 (.s (.c 1 (nL (tLs tP)))::sIq::sIq::ru2 8 [])),[⟨73,4,true,none⟩],λa H=>(⟨rL (tLs tP) (slT a 25),aIq a 26⟩,⟨1,aIq a 27,slN (slT a 6),elT H 0⟩)⟩],E7,[(some 2,λp s=>upq (Pa9 p s) [(28,b (decide (s.Ra6<p.Bd2)))]),(some 2,λp s=>upq (Qa0 p s) [(28,b (decide (s.Ra6<p.Bd2)))])],Mb4⟩
theorem Mb5:za5.OkM:=Lo.okM [] (by kernel_rfl) .nil rfl (.cons (λa H=>by kernel_rfl) (.cons (λa H=>by kernel_rfl) .nil)) λp s=>(.sel (Nat.beq s.ph 1) (.of @D3 (λF _ _ _ _ _=>by unfold D3;(repeat' apply l6 (f:=F))<;>rfl) (by kernel_rfl)) (.of @D2 (λF _ _ _ _ _=>by unfold D2;(repeat' apply l6 (f:=F))<;>rfl) (by kernel_rfl)))
structure ra4 where
 (alt ns0:Nat)
 eh0:List (List b7)
noncomputable def M1{α:Type}(kk:ra4->α)(x:List (List Pln)):α:=let t1:=(lp (L4 (⟨rt (tLs tP) x,rt (tLs tP) x,(↑(List.length x):Int)⟩:V5)) (⟨0,0⟩:s9));let t2:=(lp (E7 (⟨rt (tLs tP) (rt (tLs tP) x),(↑(List.length (rt (tLs tP) x)):Int)⟩:y5)) (⟨0,0,0,[]⟩:n5));let t3:=(lp (E7 (⟨rt (tLs tP) (rt (tLs tP) x),(↑(List.length (rt (tLs tP) x)):Int)⟩:y5)) (⟨1,0,0,List.replicate t1.2.is3.toNat Pd5⟩:n5));(sl ((cnE (tLs tP) x)&&((cnE (tLs tP) x)&&true)) (sl (Nat.beq t1.1 1) (sl (t1.2.is3==0) (sl ((cnE (tLs tP) (rt (tLs tP) x))&&true) (sl (Nat.beq t2.1 1) (kk ⟨1,0,[]⟩) (sl (Nat.beq t2.1 2) (kk ⟨2,t2.2.ns6,t2.2.eh0⟩) (kk ⟨0,0,[]⟩))) (kk ⟨0,0,[]⟩)) (sl (Bool.and (decide (0<t1.2.is3)) (Nat.ble (t1.2.is3.toNat*32) room)) (sl ((cnE (tLs tP) (rt (tLs tP) x))&&true) (sl (Nat.beq t3.1 1) (kk ⟨1,0,[]⟩) (sl (Nat.beq t3.1 2) (kk ⟨2,t3.2.ns6,t3.2.eh0⟩) (kk ⟨0,0,[]⟩))) (kk ⟨0,0,[]⟩)) (kk ⟨0,0,[]⟩))) (kk ⟨0,0,[]⟩)) (kk ⟨0,0,[]⟩))
noncomputable def u8(x:List (List Pln)):ra4:=M1 (λr=>r) x
noncomputable def Ca3(r:ra4):DT (b7×List b8):=(.ite (Nat.beq r.alt 1) (.ret (.v (.slice none 0 0),[])) (.ite (Nat.beq r.alt 2) (.ret (.sl 0 0 r.ns0 0,[⟨73,4,r.eh0,true,false,0⟩])) .fail))
theorem bc4{α β:Type}(F:α->β)(kk:ra4->α)(x:List (List Pln)):F (M1 kk x)=M1 (λr=>F (kk r)) x:=by unfold M1;(repeat' apply l6 (f:=F))<;>rfl
noncomputable def Ha4:Sum:=Y0 (P0 (tLs tP)) (λx=>Ca3 (u8 x))
theorem cb3:g9 prog G 166 Ha4:=Hb9 (bd hg5 Qb4) λx=>Xe2 (.s .p (.s .p (.s (.s .p (.b (.u za4.lsM))) (.s .p (.s (.s .p (.b (.u za5.lsM))) .p))))) [za4.prM,za5.prM] (by kernel_rfl) (.cons Mb3 (.cons Mb5 .nil)) (Qha (b:=M1 (λr=>(Ca3 r).run) x) (by kernel_rfl) (bc4 (λr=>(Ca3 r).run) (λr=>r) x).symm)
noncomputable def re5:List (Nat×Sum):=[(166,Ha4)]
theorem de2:i7 prog G re5:=⟨cb3,trivial⟩
noncomputable def Qb5(x:List (List Pln)):Option (b7×List b8):=let t1:=(u8 (rt (tLs tP) x));(sl (okE (tLs tP) x) (sl (Nat.beq t1.alt 1) (some (.sl 0 0 6 0,[⟨73,4,[[i 1,i 0,i 0,i 24],[i (-1),i 0,i 0,i 24],[i 0,i 1,i 0,i 24],[i 0,i (-1),i 0,i 24],[i 0,i 0,i 1,i 24],[i 0,i 0,i (-1),i 24]],true,false,0⟩])) (sl (Nat.beq t1.alt 2) (sl (Nat.beq t1.ns0 (len t1.eh0)&&Nat.ble ((t1.ns0+1)*32) room) (sl (Nat.beq (t1.ns0+1) (len (app t1.eh0 [[i 1,i 0,i 0,i 24]]))&&Nat.ble (((t1.ns0+1)+1)*32) room) (sl (Nat.beq ((t1.ns0+1)+1) (len (app (app t1.eh0 [[i 1,i 0,i 0,i 24]]) [[i (-1),i 0,i 0,i 24]]))&&Nat.ble ((((t1.ns0+1)+1)+1)*32) room) (sl (Nat.beq (((t1.ns0+1)+1)+1) (len (app (app (app t1.eh0 [[i 1,i 0,i 0,i 24]]) [[i (-1),i 0,i 0,i 24]]) [[i 0,i 1,i 0,i 24]]))&&Nat.ble (((((t1.ns0+1)+1)+1)+1)*32) room) (sl (Nat.beq ((((t1.ns0+1)+1)+1)+1) (len (app (app (app (app t1.eh0 [[i 1,i 0,i 0,i 24]]) [[i (-1),i 0,i 0,i 24]]) [[i 0,i 1,i 0,i 24]]) [[i 0,i (-1),i 0,i 24]]))&&Nat.ble ((((((t1.ns0+1)+1)+1)+1)+1)*32) room) (sl (Nat.beq (((((t1.ns0+1)+1)+1)+1)+1) (len (app (app (app (app (app t1.eh0 [[i 1,i 0,i 0,i 24]]) [[i (-1),i 0,i 0,i 24]]) [[i 0,i 1,i 0,i 24]]) [[i 0,i (-1),i 0,i 24]]) [[i 0,i 0,i 1,i 24]]))&&Nat.ble (((((((t1.ns0+1)+1)+1)+1)+1)+1)*32) room) (some (.sl 0 0 ((((((t1.ns0+1)+1)+1)+1)+1)+1) 0,[⟨73,4,app (app (app (app (app (app t1.eh0 [[i 1,i 0,i 0,i 24]]) [[i (-1),i 0,i 0,i 24]]) [[i 0,i 1,i 0,i 24]]) [[i 0,i (-1),i 0,i 24]]) [[i 0,i 0,i 1,i 24]]) [[i 0,i 0,i (-1),i 24]],true,false,0⟩])) none) none) none) none) none) none) none)) none)
noncomputable def ib5(x:List (List Pln)):List Pln:=N6 (one (r1L tP)) (Qb5 x)
noncomputable def ib6(x:List (List Pln)):Bool:=okO (one (r1L tP)) (Qb5 x)
noncomputable def oc9:Sum:=Y0 (P0 (tLs tP)) (λx=>.guard (ib6 x) (.ret ((one (r1L tP)).enc (ib5 x),[])))
theorem xc4:g9 prog G 110 oc9:=Ja3 (bd eg1 de2) (one (r1L tP)) (o:=Qb5) λx=>v8 (by kernel_rfl)
structure ca2 where
 Q8:List (List Pln)
noncomputable def La0:List (Nat×Sum):=[(165,ic6)]
theorem wb2:i7 prog G La0:=⟨Yc0,trivial⟩
structure M6 where
 Q8:List (List Pln)
 is7:Int
structure p8 where
 is8:Int
noncomputable def Ea6(p:M6)(s:p8):St:=⟨eL (tLs tP) p.Q8::.fn 165 []::ra 5 (i p.is7::i s.is8::ra 10 []),[]⟩
noncomputable def H5{α:Type}(k:p8->α)(e:Nat->α)(z:α)(p:M6)(s:p8):α:=let t1:=(cb1 (rt tP (gL (tLs tP) p.Q8 s.is8.toNat)));(sl (decide (s.is8<p.is7)) (sl (inB s.is8 (List.length p.Q8)) (sl (okE tP (gL (tLs tP) p.Q8 s.is8.toNat)) (sl (cb2 (rt tP (gL (tLs tP) p.Q8 s.is8.toNat))) (sl t1 (e 1) (k ⟨W (s.is8+1)⟩)) z) z) z) (e 2))
noncomputable def J9(p:M6)(s:p8):Stp p8:=H5 .next .exit .fail p s
noncomputable def la2:Lo M6 p8:=⟨En La0,0,We7,[1,0,1,4,4],[0,1,7,8],.p,[⟨.s (.c 1 (nL (tLs tP)))::.s (.o (.fn 165))::ru2 5 (sIq::sIq::ru2 10 []),[],λa H=>(⟨rL (tLs tP) (slT a 0),aIq a 7⟩,⟨aIq a 8⟩)⟩],J9,[(none,λp s=>⟨[i s.is8],[]⟩),(some 0,λp s=>upq (Ea6 p s) [(9,b (decide (s.is8<p.is7)))])],Ea6⟩
theorem sb5:la2.Ok:=Lo.ok [] (by kernel_rfl) .nil rfl (.cons (λa H=>by kernel_rfl) .nil) λp s=>(.of @H5 (λF _ _ _ _ _=>by unfold H5;(repeat' apply l6 (f:=F))<;>rfl) (by kernel_rfl))
structure ca3 where
 alt:Nat
 is0:Int
noncomputable def I6{α:Type}(kk:ca3->α)(x:ca2):α:=let t1:=(lp (J9 (⟨rt (tLs tP) x.Q8,(↑(List.length x.Q8):Int)⟩:M6)) (⟨0⟩:p8));(sl ((cnE (tLs tP) x.Q8)&&true) (sl (Nat.beq t1.1 1) (kk ⟨1,t1.2.is8⟩) (sl (Nat.beq t1.1 2) (kk ⟨1,-1⟩) (kk ⟨0,0⟩))) (kk ⟨0,0⟩))
noncomputable def sa0(x:ca2):ca3:=I6 (λr=>r) x
noncomputable def pa0(x:ca2)(r:ca3):DT (b7×List b8):=(.ite (Nat.beq r.alt 1) (.ret (i r.is0,[])) .fail)
theorem Gb0{α β:Type}(F:α->β)(kk:ca3->α)(x:ca2):F (I6 kk x)=I6 (λr=>F (kk r)) x:=by unfold I6;(repeat' apply l6 (f:=F))<;>rfl
noncomputable def Qa1:Sum:=Ra9 ⟨[.s (.c 1 (nL (tLs tP))),.s (.o (.fn 165))],[],λa H=>(⟨rL (tLs tP) (slT a 0)⟩,())⟩ (λx=>pa0 x (sa0 x))
theorem Cb3:g9 prog G 161 Qa1:=J4 (enc:=λx=>⟨[eL (tLs tP) x.Q8,.fn 165 []],[]⟩) (λa H=>by kernel_rfl) (bd Wf1 wb2) λx=>wa1 (.s .p (.s (.s .p (.b (.u la2.ls))) .p)) [la2.pr] (by kernel_rfl) (.cons sb5 .nil) (Qha (b:=I6 (λr=>(pa0 x r).run) x) (by kernel_rfl) (Gb0 (λr=>(pa0 x r).run) (λr=>r) x).symm)
structure T8 where
 Q8:List (List Pln)
noncomputable def ob6:List (Nat×Sum):=[(161,Qa1)]
theorem ib7:i7 prog G ob6:=⟨Cb3,trivial⟩
structure T9 where
 alt:Nat
 bs0:Bool
noncomputable def D7{α:Type}(kk:T9->α)(x:T8):α:=let t1:=(sa0 ⟨rt (tLs tP) x.Q8⟩);(sl ((cnE (tLs tP) x.Q8)&&true) (sl (Nat.beq t1.alt 1) (kk ⟨1,decide (t1.is0>=0)⟩) (kk ⟨0,false⟩)) (kk ⟨0,false⟩))
noncomputable def ja2(x:T8):T9:=D7 (λr=>r) x
noncomputable def ga6(x:T8)(r:T9):DT (b7×List b8):=(.ite (Nat.beq r.alt 1) (.ret (b r.bs0,[])) .fail)
theorem sb6{α β:Type}(F:α->β)(kk:T9->α)(x:T8):F (D7 kk x)=D7 (λr=>F (kk r)) x:=by unfold D7;(repeat' apply l6 (f:=F))<;>rfl
noncomputable def Ea7:Sum:=Ra9 ⟨[.s (.c 1 (nL (tLs tP))),.s (.o (.fn 165))],[],λa H=>(⟨rL (tLs tP) (slT a 0)⟩,())⟩ (λx=>ga6 x (ja2 x))
theorem ob7:g9 prog G 103 Ea7:=J4 (enc:=λx=>⟨[eL (tLs tP) x.Q8,.fn 165 []],[]⟩) (λa H=>by kernel_rfl) (bd Vf7 ib7) λx=>v8 (Qha (b:=D7 (λr=>(ga6 x r).run) x) (by kernel_rfl) (sb6 (λr=>(ga6 x r).run) (λr=>r) x).symm)
noncomputable def xd3:List (Nat×Sum):=[(103,Ea7)]
theorem kd6:i7 prog G xd3:=⟨ob7,trivial⟩
noncomputable def cb4(x:List (List Pln)):Option (b7×List b8):=let t1:=(ja2 ⟨rt (tLs tP) x⟩);(sl ((cnE (tLs tP) x)&&true) (sl (Nat.beq t1.alt 1) (some (b (!t1.bs0),[])) none) none)
noncomputable def ua4(x:List (List Pln)):Bool:=N6 (one r1B) (cb4 x)
noncomputable def ua5(x:List (List Pln)):Bool:=okO (one r1B) (cb4 x)
noncomputable def cb5:Sum:=Y0 (P0 (tLs tP)) (λx=>.guard (ua5 x) (.ret ((one r1B).enc (ua4 x),[])))
theorem lb4:g9 prog G 109 cb5:=Ja3 (bd eg0 kd6) (one r1B) (o:=cb4) λx=>v8 (by kernel_rfl)
structure la3 where
 (ia5 ia6 ia7 rb0 f7 d8 f8 i9:Int)
noncomputable def Qb6:List (Nat×Sum):=[(153,Ib9)]
theorem Mb6:i7 prog G Qb6:=⟨Vb0,trivial⟩
structure Z1 where
 bs0:Bool
noncomputable def Z2{α:Type}(kk:Z1->α)(x:la3):α:=let t1:=(Ba2 (⟨(⟨x.f7,x.d8,x.f8⟩:V3),x.i9⟩:Pln) (⟨x.ia5,x.ia6,x.ia7,x.rb0⟩:Pt));(kk ⟨decide (t1>0)⟩)
noncomputable def Ca4(x:la3):Z1:=Z2 (λr=>r) x
noncomputable def za6(x:la3)(r:Z1):DT (b7×List b8):=.ret (b r.bs0,[⟨0,4,[[i x.f7,i x.d8,i x.f8,i x.i9]],true,false,0⟩])
theorem Vb6{α β:Type}(F:α->β)(kk:Z1->α)(x:la3):F (Z2 kk x)=Z2 (λr=>F (kk r)) x:=by unfold Z2;(repeat' apply l6 (f:=F))<;>rfl
noncomputable def cb6:Sum:=Ra9 ⟨[.agg (kLq 4),sPq 0],[⟨0,4,true,some [kLq 4]⟩],λa H=>(⟨cIq a 0 0,cIq a 0 1,cIq a 0 2,cIq a 0 3,hIq H 0 0 0,hIq H 0 0 1,hIq H 0 0 2,hIq H 0 0 3⟩,())⟩ (λx=>za6 x (Ca4 x))
theorem Qb7:g9 prog G 170 cb6:=J4 (enc:=λx=>⟨[.agg [i x.ia5,i x.ia6,i x.ia7,i x.rb0],.ptr 0 0 0 0],[⟨0,4,[[i x.f7,i x.d8,i x.f8,i x.i9]],true,false,0⟩]⟩) (λa H=>by kernel_rfl) (bd hg9 Mb6) λx=>v8 (Qha (b:=Z2 (λr=>(za6 x r).run) x) (by kernel_rfl) (Vb6 (λr=>(za6 x r).run) (λr=>r) x).symm)
structure fa3 where
 U7:List Pt
 (f7 d8 f8 i9:Int)
noncomputable def Qa2:List (Nat×Sum):=[(170,cb6)]
theorem Cb4:i7 prog G Qa2:=⟨Qb7,trivial⟩
structure O2 where
 U7:List Pt
 (is7 f7 d8 f8 i9:Int)
structure r5 where
 is8:Int
noncomputable def Ia0(p:O2)(s:r5):St:=⟨eL tX p.U7::.fn 170 [.ptr 0 0 0 0]::ra 5 (i p.is7::i s.is8::ra 10 []),[⟨0,4,[[i p.f7,i p.d8,i p.f8,i p.i9]],true,false,0⟩]⟩
noncomputable def K0{α:Type}(k:r5->α)(e:Nat->α)(z:α)(p:O2)(s:r5):α:=let t1:=(Ca4 ⟨(gL tX p.U7 s.is8.toNat).px,(gL tX p.U7 s.is8.toNat).py,(gL tX p.U7 s.is8.toNat).pz,(gL tX p.U7 s.is8.toNat).pw,p.f7,p.d8,p.f8,p.i9⟩);(sl (decide (s.is8<p.is7)) (sl (inB s.is8 (List.length p.U7)) (sl t1.bs0 (e 1) (k ⟨W (s.is8+1)⟩)) z) (e 2))
noncomputable def M7(p:O2)(s:r5):Stp r5:=K0 .next .exit .fail p s
noncomputable def pa1:Lo O2 r5:=⟨En Qa2,1,We9,[1,0,1,4,4],[0,1,7,8],.p,[⟨sLq tX::.fn 170 [.o (.ptr 0 0 0 0)]::ru2 5 (sIq::sIq::ru2 10 []),[⟨0,4,true,some [kLq 4]⟩],λa H=>(⟨aLq tX a 0,aIq a 7,hIq H 0 0 0,hIq H 0 0 1,hIq H 0 0 2,hIq H 0 0 3⟩,⟨aIq a 8⟩)⟩],M7,[(none,λp s=>⟨[i s.is8],[⟨0,4,[[i p.f7,i p.d8,i p.f8,i p.i9]],true,false,0⟩]⟩),(some 0,λp s=>upq (Ia0 p s) [(9,b (decide (s.is8<p.is7)))])],Ia0⟩
theorem wb3:pa1.Ok:=Lo.ok [] (by kernel_rfl) .nil rfl (.cons (λa H=>by kernel_rfl) .nil) λp s=>(.of @K0 (λF _ _ _ _ _=>by unfold K0;(repeat' apply l6 (f:=F))<;>rfl) (by kernel_rfl))
structure fa4 where
 alt:Nat
 is0:Int
noncomputable def L5{α:Type}(kk:fa4->α)(x:fa3):α:=let t1:=(lp (M7 (⟨rt tX x.U7,(↑(List.length x.U7):Int),x.f7,x.d8,x.f8,x.i9⟩:O2)) (⟨0⟩:r5));(sl ((cnE tX x.U7)&&true) (sl (Nat.beq t1.1 1) (kk ⟨1,t1.2.is8⟩) (sl (Nat.beq t1.1 2) (kk ⟨1,-1⟩) (kk ⟨0,0⟩))) (kk ⟨0,0⟩))
noncomputable def wa2(x:fa3):fa4:=L5 (λr=>r) x
noncomputable def sa1(x:fa3)(r:fa4):DT (b7×List b8):=(.ite (Nat.beq r.alt 1) (.ret (i r.is0,[⟨0,4,[[i x.f7,i x.d8,i x.f8,i x.i9]],true,false,0⟩])) .fail)
theorem Mb7{α β:Type}(F:α->β)(kk:fa4->α)(x:fa3):F (L5 kk x)=L5 (λr=>F (kk r)) x:=by unfold L5;(repeat' apply l6 (f:=F))<;>rfl
noncomputable def Ta1:Sum:=Ra9 ⟨[sLq tX,.fn 170 [.o (.ptr 0 0 0 0)]],[⟨0,4,true,some [kLq 4]⟩],λa H=>(⟨aLq tX a 0,hIq H 0 0 0,hIq H 0 0 1,hIq H 0 0 2,hIq H 0 0 3⟩,())⟩ (λx=>sa1 x (wa2 x))
theorem Gb1:g9 prog G 171 Ta1:=J4 (enc:=λx=>⟨[eL tX x.U7,.fn 170 [.ptr 0 0 0 0]],[⟨0,4,[[i x.f7,i x.d8,i x.f8,i x.i9]],true,false,0⟩]⟩) (λa H=>by kernel_rfl) (bd Wf2 Cb4) λx=>wa1 (.s .p (.s (.s .p (.b (.u pa1.ls))) .p)) [pa1.pr] (by kernel_rfl) (.cons wb3 .nil) (Qha (b:=L5 (λr=>(sa1 x r).run) x) (by kernel_rfl) (Mb7 (λr=>(sa1 x r).run) (λr=>r) x).symm)
structure W6 where
 U7:List Pt
 (f7 d8 f8 i9:Int)
noncomputable def sb7:List (Nat×Sum):=[(171,Ta1)]
theorem ob8:i7 prog G sb7:=⟨Gb1,trivial⟩
structure W7 where
 alt:Nat
 bs0:Bool
noncomputable def F4{α:Type}(kk:W7->α)(x:W6):α:=let t1:=(wa2 ⟨rt tX x.U7,x.f7,x.d8,x.f8,x.i9⟩);(sl ((cnE tX x.U7)&&true) (sl (Nat.beq t1.alt 1) (kk ⟨1,decide (t1.is0>=0)⟩) (kk ⟨0,false⟩)) (kk ⟨0,false⟩))
noncomputable def la4(x:W6):W7:=F4 (λr=>r) x
noncomputable def ja3(x:W6)(r:W7):DT (b7×List b8):=(.ite (Nat.beq r.alt 1) (.ret (b r.bs0,[⟨0,4,[[i x.f7,i x.d8,i x.f8,i x.i9]],true,false,0⟩])) .fail)
theorem wb4{α β:Type}(F:α->β)(kk:W7->α)(x:W6):F (F4 kk x)=F4 (λr=>F (kk r)) x:=by unfold F4;(repeat' apply l6 (f:=F))<;>rfl
noncomputable def Ia1:Sum:=Ra9 ⟨[sLq tX,.fn 170 [.o (.ptr 0 0 0 0)]],[⟨0,4,true,some [kLq 4]⟩],λa H=>(⟨aLq tX a 0,hIq H 0 0 0,hIq H 0 0 1,hIq H 0 0 2,hIq H 0 0 3⟩,())⟩ (λx=>ja3 x (la4 x))
theorem sb8:g9 prog G 112 Ia1:=J4 (enc:=λx=>⟨[eL tX x.U7,.fn 170 [.ptr 0 0 0 0]],[⟨0,4,[[i x.f7,i x.d8,i x.f8,i x.i9]],true,false,0⟩]⟩) (λa H=>by kernel_rfl) (bd Vf8 ob8) λx=>v8 (Qha (b:=F4 (λr=>(ja3 x r).run) x) (by kernel_rfl) (wb4 (λr=>(ja3 x r).run) (λr=>r) x).symm)
structure ua6 where
 (ia5 ia6 ia7 rb0:Int)
 i6:List Pt
noncomputable def bc5:List (Nat×Sum):=[(112,Ia1)]
theorem Vb7:i7 prog G bc5:=⟨sb8,trivial⟩
structure ga7 where
 alt:Nat
 bs0:Bool
noncomputable def V6{α:Type}(kk:ga7->α)(x:ua6):α:=let t1:=(la4 ⟨rt tX x.i6,x.ia5,x.ia6,x.ia7,x.rb0⟩);(sl ((cnE tX x.i6)&&true) (sl (Nat.beq t1.alt 1) (kk ⟨1,!t1.bs0⟩) (kk ⟨0,false⟩)) (kk ⟨0,false⟩))
noncomputable def ua7(x:ua6):ga7:=V6 (λr=>r) x
noncomputable def Ha5(x:ua6)(r:ga7):DT (b7×List b8):=(.ite (Nat.beq r.alt 1) (.ret (b r.bs0,[⟨0,1,[[eL tX x.i6]],true,false,0⟩])) .fail)
theorem ic8{α β:Type}(F:α->β)(kk:ga7->α)(x:ua6):F (V6 kk x)=V6 (λr=>F (kk r)) x:=by unfold V6;(repeat' apply l6 (f:=F))<;>rfl
noncomputable def ob9:Sum:=Ra9 ⟨[.agg (kLq 4),sPq 0],[⟨0,1,true,some [[.c 4 (nL tX)]]⟩],λa H=>(⟨cIq a 0 0,cIq a 0 1,cIq a 0 2,cIq a 0 3,hLq tX H 0 0 0⟩,())⟩ (λx=>Ha5 x (ua7 x))
theorem bc6:g9 prog G 169 ob9:=J4 (enc:=λx=>⟨[.agg [i x.ia5,i x.ia6,i x.ia7,i x.rb0],.ptr 0 0 0 0],[⟨0,1,[[eL tX x.i6]],true,false,0⟩]⟩) (λa H=>by kernel_rfl) (bd hg8 Vb7) λx=>v8 (Qha (b:=V6 (λr=>(Ha5 x r).run) x) (by kernel_rfl) (ic8 (λr=>(Ha5 x r).run) (λr=>r) x).symm)
structure ca4 where
 b9:List Pln
 i6:List Pt
noncomputable def La1:List (Nat×Sum):=[(169,ob9)]
theorem wb5:i7 prog G La1:=⟨bc6,trivial⟩
structure M8 where
 b9:List Pln
 is7:Int
structure p9 where
 is8:Int
 i6:List Pt
noncomputable def Ea8(p:M8)(s:p9):St:=⟨eL tP p.b9::.fn 169 [.ptr 0 0 0 0]::ra 5 (i p.is7::i s.is8::ra 10 []),[⟨0,1,[[eL tX s.i6]],true,false,0⟩]⟩
noncomputable def H6{α:Type}(k:p9->α)(e:Nat->α)(z:α)(p:M8)(s:p9):α:=let t1:=(ua7 ⟨(gL tP p.b9 s.is8.toNat).n.x,(gL tP p.b9 s.is8.toNat).n.y,(gL tP p.b9 s.is8.toNat).n.z,(gL tP p.b9 s.is8.toNat).b,rt tX s.i6⟩);(sl (decide (s.is8<p.is7)) (sl (inB s.is8 (List.length p.b9)) (sl ((cnE tX s.i6)&&true) (sl (Nat.beq t1.alt 1) (sl t1.bs0 (e 1) (k ⟨W (s.is8+1),rt tX s.i6⟩)) z) z) z) (e 2))
noncomputable def K1(p:M8)(s:p9):Stp p9:=H6 .next .exit .fail p s
noncomputable def la5:Lo M8 p9:=⟨En La1,1,Cf7,[1,0,1,4,4],[0,1,7,8],.p,[⟨sLq tP::.fn 169 [.o (.ptr 0 0 0 0)]::ru2 5 (sIq::sIq::ru2 10 []),[⟨0,1,true,some [[.c 4 (nL tX)]]⟩],λa H=>(⟨aLq tP a 0,aIq a 7⟩,⟨aIq a 8,hLq tX H 0 0 0⟩)⟩],K1,[(none,λp s=>⟨[i s.is8],[⟨0,1,[[eL tX (rt tX s.i6)]],true,false,0⟩]⟩),(some 0,λp s=>upq (Ea8 p s) [(9,b (decide (s.is8<p.is7)))])],Ea8⟩
theorem sb9:la5.Ok:=Lo.ok [] (by kernel_rfl) .nil rfl (.cons (λa H=>by kernel_rfl) .nil) λp s=>(.of @H6 (λF _ _ _ _ _=>by unfold H6;(repeat' apply l6 (f:=F))<;>rfl) (by kernel_rfl))
structure ca5 where
 alt:Nat
 is0:Int
 i6:List Pt
noncomputable def I7{α:Type}(kk:ca5->α)(x:ca4):α:=let t1:=(lp (K1 (⟨rt tP x.b9,(↑(List.length x.b9):Int)⟩:M8)) (⟨0,rt tX x.i6⟩:p9));(sl ((cnE tP x.b9)&&((cnE tX x.i6)&&true)) (sl (Nat.beq t1.1 1) (kk ⟨1,t1.2.is8,rt tX t1.2.i6⟩) (sl (Nat.beq t1.1 2) (kk ⟨1,-1,t1.2.i6⟩) (kk ⟨0,0,[]⟩))) (kk ⟨0,0,[]⟩))
noncomputable def sa2(x:ca4):ca5:=I7 (λr=>r) x
noncomputable def pa2(x:ca4)(r:ca5):DT (b7×List b8):=(.ite (Nat.beq r.alt 1) (.ret (i r.is0,[⟨0,1,[[eL tX r.i6]],true,false,0⟩])) .fail)
theorem Gb2{α β:Type}(F:α->β)(kk:ca5->α)(x:ca4):F (I7 kk x)=I7 (λr=>F (kk r)) x:=by unfold I7;(repeat' apply l6 (f:=F))<;>rfl
noncomputable def Qa3:Sum:=Ra9 ⟨[sLq tP,.fn 169 [.o (.ptr 0 0 0 0)]],[⟨0,1,true,some [[.c 4 (nL tX)]]⟩],λa H=>(⟨aLq tP a 0,hLq tX H 0 0 0⟩,())⟩ (λx=>pa2 x (sa2 x))
theorem Cb5:g9 prog G 196 Qa3:=J4 (enc:=λx=>⟨[eL tP x.b9,.fn 169 [.ptr 0 0 0 0]],[⟨0,1,[[eL tX x.i6]],true,false,0⟩]⟩) (λa H=>by kernel_rfl) (bd jg1 wb5) λx=>wa1 (.s .p (.s (.s .p (.b (.u la5.ls))) .p)) [la5.pr] (by kernel_rfl) (.cons sb9 .nil) (Qha (b:=I7 (λr=>(pa2 x r).run) x) (by kernel_rfl) (Gb2 (λr=>(pa2 x r).run) (λr=>r) x).symm)
structure U0 where
 b9:List Pln
 i6:List Pt
noncomputable def pb0:List (Nat×Sum):=[(196,Qa3)]
theorem ib8:i7 prog G pb0:=⟨Cb5,trivial⟩
structure U1 where
 alt:Nat
 bs0:Bool
 i6:List Pt
noncomputable def D8{α:Type}(kk:U1->α)(x:U0):α:=let t1:=(sa2 ⟨rt tP x.b9,rt tX x.i6⟩);(sl ((cnE tP x.b9)&&((cnE tX x.i6)&&true)) (sl (Nat.beq t1.alt 1) (kk ⟨1,decide (t1.is0>=0),t1.i6⟩) (kk ⟨0,false,[]⟩)) (kk ⟨0,false,[]⟩))
noncomputable def ja4(x:U0):U1:=D8 (λr=>r) x
noncomputable def ga8(x:U0)(r:U1):DT (b7×List b8):=(.ite (Nat.beq r.alt 1) (.ret (b r.bs0,[⟨0,1,[[eL tX r.i6]],true,false,0⟩])) .fail)
theorem tb0{α β:Type}(F:α->β)(kk:U1->α)(x:U0):F (D8 kk x)=D8 (λr=>F (kk r)) x:=by unfold D8;(repeat' apply l6 (f:=F))<;>rfl
noncomputable def Ea9:Sum:=Ra9 ⟨[sLq tP,.fn 169 [.o (.ptr 0 0 0 0)]],[⟨0,1,true,some [[.c 4 (nL tX)]]⟩],λa H=>(⟨aLq tP a 0,hLq tX H 0 0 0⟩,())⟩ (λx=>ga8 x (ja4 x))
theorem pb1:g9 prog G 168 Ea9:=J4 (enc:=λx=>⟨[eL tP x.b9,.fn 169 [.ptr 0 0 0 0]],[⟨0,1,[[eL tX x.i6]],true,false,0⟩]⟩) (λa H=>by kernel_rfl) (bd hg7 ib8) λx=>v8 (Qha (b:=D8 (λr=>(ga8 x r).run) x) (by kernel_rfl) (tb0 (λr=>(ga8 x r).run) (λr=>r) x).symm)
noncomputable def qc3:List (Nat×Sum):=[(167,Ha3),(168,Ea9)]
theorem ic9:i7 prog G qc3:=⟨bb5,pb1,trivial⟩
noncomputable def pa3(x:List Pln):Option (b7×List b8):=let t1:=(da7 (rt tP x));let t2:=(ja4 ⟨rt tP x,rt tX t1⟩);(sl (okE tP x) (sl (da8 (rt tP x)) (sl ((cnE tP x)&&((cnE tX t1)&&true)) (sl (Nat.beq t2.alt 1) (some (b (!t2.bs0),[])) none) none) none) none)
noncomputable def pa4(x:List Pln):Bool:=N6 (one r1B) (pa3 x)
noncomputable def pa5(x:List Pln):Bool:=okO (one r1B) (pa3 x)
noncomputable def Xa4:Sum:=Y0 (P0 tP) (λx=>.guard (pa5 x) (.ret ((one r1B).enc (pa4 x),[])))
theorem ub7:g9 prog G 111 Xa4:=Ja3 (bd eg2 ic9) (one r1B) (o:=pa3) λx=>v8 (by kernel_rfl)
noncomputable def kd7:List (Nat×Sum):=[(109,cb5),(110,oc9),(167,Ha3)]
theorem Yc1:i7 prog G kd7:=⟨lb4,xc4,bb5,trivial⟩
noncomputable def Ta2(x:List Pln):Option (b7×List b8):=let t1:=(ua4 [rt tP x]);let t2:=(ib5 [rt tP x]);let t3:=(da7 (rt tP t2));(sl ((okE tP x)&&true) (sl (ua5 [rt tP x]) (sl (!t1) (some (.v (.slice none 0 0),[])) (sl ((okE tP x)&&true) (sl (ib6 [rt tP x]) (sl (okE tP t2) (sl (da8 (rt tP t2)) (some (eL tX t3,[])) none) none) none) none)) none) none)
noncomputable def wa3(x:List Pln):List Pt:=N6 (one (r1L tX)) (Ta2 x)
noncomputable def wa4(x:List Pln):Bool:=okO (one (r1L tX)) (Ta2 x)
noncomputable def Ta3:Sum:=Y0 (P0 tP) (λx=>.guard (wa4 x) (.ret ((one (r1L tX)).enc (wa3 x),[])))
theorem cb7:g9 prog G 113 Ta3:=Ja3 (bd eg3 Yc1) (one (r1L tX)) (o:=Ta2) λx=>v8 (by kernel_rfl)
noncomputable def Pd6:List (Nat×Sum):=[(109,cb5),(110,oc9),(111,Xa4)]
theorem xd4:i7 prog G Pd6:=⟨lb4,xc4,ub7,trivial⟩
noncomputable def pb2(x:List Pln):Option (b7×List b8):=let t1:=(ua4 [rt tP x]);let t2:=(ib5 [rt tP x]);let t3:=(pa4 (rt tP t2));(sl ((okE tP x)&&true) (sl (ua5 [rt tP x]) (sl t1 (sl ((okE tP x)&&true) (sl (ib6 [rt tP x]) (sl (okE tP t2) (sl (pa5 (rt tP t2)) (some (b t3,[])) none) none) none) none) (some (b false,[]))) none) none)
noncomputable def na7(x:List Pln):Bool:=N6 (one r1B) (pb2 x)
noncomputable def na8(x:List Pln):Bool:=okO (one r1B) (pb2 x)
noncomputable def Ba3:Sum:=Y0 (P0 tP) (λx=>.guard (na8 x) (.ret ((one r1B).enc (na7 x),[])))
theorem Ca5:g9 prog G 55 Ba3:=Ja3 (bd b55 xd4) (one r1B) (o:=pb2) λx=>v8 (by kernel_rfl)
structure Xe3 where
 lg4:List Pt
 ya0:Int
structure Xe4 where
 (Sc0 fb4 fb5 fb6 Zf9 ag0 ag1:Int)
theorem Ie6(P:Oa0)(g n:Int)(hn:n.natAbs<=9223372036854775808):lp (Sa6 P) ⟨g,n⟩=(1,⟨eu g n,0⟩) :=
 xe6 (mk:=λg n=>(⟨g,n⟩:ta9)) (λg n h=>by simp[Sa6,Ka1,Ab1,h]) (λg=>by simp[Sa6,Ka1,Ab1]) g n hn
theorem Ie7(l:List Int)(hl:l.length<=1000000000)(hb:∀x∈l,x.natAbs<=9223372036854775808):lp (Ga6 ⟨(l.length:Int)⟩) ⟨0,l,0⟩=(1,⟨l.foldl eu 0,l,l.length⟩):=by
 have := Dc6 (step := Ga6 ⟨(l.length : Int)⟩) (mk := fun j a => (⟨a, l, (j : Int)⟩ : ua0)) (f := eu) (fin := 1) tI l (fun _ _ => True) hl (fun j a hj _ => ⟨by
   simp only[Ga6,Ka2,Int.toNat_natCast,i5,i8,Ie6 _ _ _ (hb _ (va9 tI hj)),n8 hj (by omega)]
   rw[bt (fc7 hj),bt (f0 hj)]
   rfl,trivial⟩) (λa _=>by simp[Ga6,Ka2,Ab1]) 0 (Nat.zero_le _) 0 trivial
 simpa using this.1
theorem Gc0:∀(l:List Int) (g:Int),(l.foldl eu g).natAbs=l.foldl (λa x=>Nat.gcd a x.natAbs) g.natAbs
 |[],_=>rfl
 |x::l,g=>by rw[List.foldl_cons,Gc0 l,List.foldl_cons,Te1];rfl
theorem Jf3(l:List Int)(hl:l.length<=1000000000)(hb:∀x∈l,x.natAbs<=9223372036854775807)(h0:(l.foldl eu 0).natAbs<=9223372036854775807):Bb8 l=some (i ((l.foldl eu 0).natAbs:Int),[]):=by
 unfold Bb8;simp only[i5,i8,Ie7 l hl (λx hx=>Nat.le_succ_of_le (hb x hx))]
 generalize l.foldl eu 0=e at *
 have:W (0-e)=-e:=by rw[ka2 (by omega) (by omega)];omega
 rw[this];show some (i (if -e>e then -e else e),[])=_
 congr 3
 split<;>omega
theorem Fd1(x y:Int)(hx:0<=x)(hy:0<=y)(hb:y<=9223372036854775807):ab6 x y=some (i (Int.gcd x y:Int),[]):=by
 unfold ab6
 have:=xe6 (step:=Da6 ⟨⟩) (mk:=λg n=>(⟨g,n⟩:ga3)) (λg n h=>by simp[Da6,ya7,Ab1,h]) (λg=>by simp[Da6,ya7,Ab1]) x y (by omega)
 simp only[this,Te2 hx hy];rfl
theorem kd8(x y:Int)(hx:0<=x)(hy:0<=y)(hb:y<=9223372036854775807):Y2 x y=(Int.gcd x y:Int):=by unfold Y2;rw[Fd1 x y hx hy hb];rfl
theorem kd9(x y:Int)(hx:0<=x)(hy:0<=y)(hb:y<=9223372036854775807):Y3 x y=true:=by unfold Y3;rw[Fd1 x y hx hy hb];rfl
noncomputable def rm(p:Pln)(x:Pt):Int:=W (p.b*x.pw-(p.n.x*x.px+p.n.y*x.py+p.n.z*x.pz))
theorem Pd7(p:Pln)(x:Pt):Ba2 p x=rm p x:=by
 unfold Ba2 Ya5 rm;simp only[Ab3,fc6,hd5,Nd3]
theorem cd0(p:Pln)(x:Pt):Xa0 p x=rm p x:=by
 unfold Xa0 rm;simp only[Ab3,fc6,hd5,Nd3];congr 1;omega
structure Bd(p:Pln):Prop where
 x1:-4608<=p.n.x
 x2:p.n.x<=4608
 y1:-4608<=p.n.y
 y2:p.n.y<=4608
 z1:-4608<=p.n.z
 z2:p.n.z<=4608
 b1:-2097152<=p.b
 b2:p.b<=2097152
def mv(p q r:Pln):V3 :=
 ⟨(d9 q.n r.n).x*p.b+(d9 r.n p.n).x*q.b+(d9 p.n q.n).x*r.b,
  (d9 q.n r.n).y*p.b+(d9 r.n p.n).y*q.b+(d9 p.n q.n).y*r.b,
  (d9 q.n r.n).z*p.b+(d9 r.n p.n).z*q.b+(d9 p.n q.n).z*r.b⟩
def gc(v:V3)(w:Int):Int:=(Nat.gcd (Nat.gcd v.x.natAbs v.y.natAbs) (Nat.gcd v.z.natAbs w.natAbs):Nat)
def mpt(p q r:Pln):Pt×Bool :=
 if mw p q r=0 then (⟨0,0,0,0⟩,false)
 else if mw p q r<0 then (⟨Int.tdiv (-(mv p q r).x) (gc (mv p q r) (mw p q r)),Int.tdiv (-(mv p q r).y) (gc (mv p q r) (mw p q r)),Int.tdiv (-(mv p q r).z) (gc (mv p q r) (mw p q r)),Int.tdiv (-(mw p q r)) (gc (mv p q r) (mw p q r))⟩,true)
 else (⟨Int.tdiv (mv p q r).x (gc (mv p q r) (mw p q r)),Int.tdiv (mv p q r).y (gc (mv p q r) (mw p q r)),Int.tdiv (mv p q r).z (gc (mv p q r) (mw p q r)),Int.tdiv (mw p q r) (gc (mv p q r) (mw p q r))⟩,true)
def Sm(n:Int)(x:Int):Prop:=-n<=x/\x<=n
theorem Gc1{a b:V3}(ha:Sm 4608 a.x/\Sm 4608 a.y/\Sm 4608 a.z)(hb:Sm 4608 b.x/\Sm 4608 b.y/\Sm 4608 b.z):Sm 42467328 (d9 a b).x/\Sm 42467328 (d9 a b).y/\Sm 42467328 (d9 a b).z:=by
 obtain⟨⟨a1,a2⟩,⟨a3,a4⟩,a5,a6⟩:=ha;obtain⟨⟨b1,b2⟩,⟨b3,b4⟩,b5,b6⟩:=hb;have h1:=mb a3 a4 b5 b6;have h2:=mb a5 a6 b3 b4;have h3:=mb a5 a6 b1 b2;have h4:=mb a1 a2 b5 b6;have h5:=mb a1 a2 b3 b4;have h6:=mb a3 a4 b1 b2;unfold Sm d9
 simp only
 omega
theorem Bd.n{p:Pln}(h:Bd p):Sm 4608 p.n.x/\Sm 4608 p.n.y/\Sm 4608 p.n.z:=⟨⟨h.x1,h.x2⟩,⟨h.y1,h.y2⟩,h.z1,h.z2⟩
theorem Xe5{p q r:Pln}(hp:Bd p)(hq:Bd q)(hr:Bd r):Sm 600000000000 (mw p q r):=by
 obtain⟨⟨c1,c2⟩,⟨c3,c4⟩,c5,c6⟩:=Gc1 hq.n hr.n;have h1:=mb hp.x1 hp.x2 c1 c2;have h2:=mb hp.y1 hp.y2 c3 c4;have h3:=mb hp.z1 hp.z2 c5 c6;unfold Sm mw dot;omega
theorem Xe6{p q r:Pln}(hp:Bd p)(hq:Bd q)(hr:Bd r):Sm 300000000000000 (mv p q r).x/\Sm 300000000000000 (mv p q r).y/\Sm 300000000000000 (mv p q r).z:=by
 obtain⟨⟨c1,c2⟩,⟨c3,c4⟩,c5,c6⟩:=Gc1 hq.n hr.n;obtain⟨⟨d1,d2⟩,⟨d3,d4⟩,d5,d6⟩:=Gc1 hr.n hp.n;obtain⟨⟨e1,e2⟩,⟨e3,e4⟩,e5,e6⟩:=Gc1 hp.n hq.n;have a1:=mb c1 c2 hp.b1 hp.b2;have a2:=mb c3 c4 hp.b1 hp.b2;have a3:=mb c5 c6 hp.b1 hp.b2;have b1:=mb d1 d2 hq.b1 hq.b2;have b2:=mb d3 d4 hq.b1 hq.b2;have b3:=mb d5 d6 hq.b1 hq.b2;have f1:=mb e1 e2 hr.b1 hr.b2;have f2:=mb e3 e4 hr.b1 hr.b2;have f3:=mb e5 e6 hr.b1 hr.b2;unfold Sm mv
 simp only
 omega
theorem cd1(a b:V3):X3 a b=⟨W (d9 a b).x,W (d9 a b).y,W (d9 a b).z⟩:=by
 unfold X3 d9;simp only[hd5,Nd3]
theorem Gc2(a b:V3):ba1 a b=⟨W (d9 a b).x,W (d9 a b).y,W (d9 a b).z⟩:=by
 unfold ba1 d9;simp only[hd5,Nd3]
theorem Jf4(p q r:Pln):dot r.n (d9 p.n q.n)=mw p q r:=by unfold mw dot d9;grind
theorem kg2(a b c d:Nat):[a,b,c,d].foldl Nat.gcd 0=Nat.gcd (Nat.gcd a b) (Nat.gcd c d):=by
 simp only[List.foldl_cons,List.foldl_nil,Nat.gcd_zero_left];rw[Nat.gcd_assoc]
theorem ld0{v:V3}{w:Int}(h:w≠0):0<gc v w:=by
 unfold gc
 have:0<Nat.gcd v.z.natAbs w.natAbs:=Qhb _ (by omega)
 have:=Qhb (Nat.gcd v.x.natAbs v.y.natAbs) this
 omega
theorem Xe7{v:V3}{w:Int}(h:w≠0):gc v w<=w.natAbs:=by
 unfold gc;have h1:Nat.gcd v.z.natAbs w.natAbs<=w.natAbs:=Qhd _ (by omega)
 have h2:0<Nat.gcd v.z.natAbs w.natAbs:=Qhb _ (by omega)
 have h3:=Qhd (m:=Nat.gcd v.x.natAbs v.y.natAbs) (n:=Nat.gcd v.z.natAbs w.natAbs) h2;omega
theorem La2{x:Int}(h:Sm 1000000000000000000 x):W x=x:=ka2 (by have:=h.1;omega) (by have:=h.2;omega)
theorem Sm.mono{n m x:Int}(h:Sm n x)(hn:n<=m):Sm m x:=⟨by have:=h.1;omega,by have:=h.2;omega⟩
theorem L1{n x g:Int}(h:Sm n x)(hg:0<g):Sm n (Int.tdiv x g):=by
 have h1:(Int.tdiv x g).natAbs<=x.natAbs:=by rw[Int.natAbs_tdiv];exact Nat.div_le_self _ _
 have:=h.1;have:=h.2
 constructor<;>omega
theorem re6{p q r:Pln}(hp:Bd p)(hq:Bd q)(hr:Bd r)(h:(mpt p q r).2=true):0<(mpt p q r).1.pw/\Sm 300000000000000 (mpt p q r).1.px/\Sm 300000000000000 (mpt p q r).1.py/\Sm 300000000000000 (mpt p q r).1.pz/\(mpt p q r).1.pw<=600000000000:=by
 have hw:=Xe5 hp hq hr;obtain⟨v1,v2,v3⟩:=Xe6 hp hq hr;have neg:∀{n x:Int},Sm n x->Sm n (-x):=λh=>⟨by have:=h.2;omega,by have:=h.1;omega⟩
 have pos:∀{x:Int},0<x->x.natAbs=(mw p q r).natAbs->0<Int.tdiv x (gc (mv p q r) (mw p q r)):=λ{x} hx he=>by
  have h0:mw p q r≠0:=by omega
  have h1:=ld0 (v:=mv p q r) h0;have h2:=Xe7 (v:=mv p q r) h0;rw[Int.tdiv_eq_ediv_of_nonneg (by omega)]
  exact Int.ediv_pos_of_pos_of_dvd hx (by omega) (by
   rw[<- Int.dvd_natAbs,he];exact Int.natCast_dvd_natCast.2 (Nat.dvd_trans (Nat.gcd_dvd_right _ _) (Nat.gcd_dvd_right _ _)))
 unfold mpt at h ⊢;by_cases h0:mw p q r=0
 ·rw[if_pos h0] at h;cases h
 ·rw[if_neg h0];have hg:=ld0 (v:=mv p q r) h0;by_cases h1:mw p q r<0
  ·rw[if_pos h1];exact⟨pos (by omega) (by omega),L1 (neg v1) hg,L1 (neg v2) hg,L1 (neg v3) hg,(L1 (neg hw) hg).2⟩
  ·rw[if_neg h1];exact⟨pos (by omega) rfl,L1 v1 hg,L1 v2 hg,L1 v3 hg,(L1 hw hg).2⟩
theorem ye4{p q r:Pln}(hp:Bd p)(hq:Bd q)(hr:Bd r):nb9 ⟨p,q,r⟩=some (.tup [.agg (tX.row (mpt p q r).1),b (mpt p q r).2],[]):=by
 have hw:=Xe5 hp hq hr;obtain⟨v1,v2,v3⟩:=Xe6 hp hq hr;have e1:Ya5 r.n (X3 p.n q.n)=mw p q r:=by
  rw[cd1];unfold Ya5;simp only[Ab3,fc6,Se9];show W (dot r.n (d9 p.n q.n))=_;rw[Jf4,La2 (hw.mono (by omega))]
 have e2:Ba1 (Ba1 (Ba1 ⟨0,0,0⟩ (ta8 (X3 q.n r.n) p.b)) (ta8 (X3 r.n p.n) q.b)) (ta8 (X3 p.n q.n) r.b)=mv p q r:=by
  rw[cd1,cd1,cd1];unfold Ba1 ta8;simp only[Ab3,fc6,pe5,Int.zero_add];show (⟨W (mv p q r).x,W (mv p q r).y,W (mv p q r).z⟩:V3)=_;rw[La2 (v1.mono (by omega)),La2 (v2.mono (by omega)),La2 (v3.mono (by omega))]
 unfold nb9;simp only[e1,e2];have hb:∀x∈[(mv p q r).x,(mv p q r).y,(mv p q r).z,mw p q r],x.natAbs<=9223372036854775807:=by
  intro x hx;simp only[List.mem_cons,List.not_mem_nil,or_false] at hx;unfold Sm at *
  rcases hx with rfl|rfl|rfl|rfl<;>omega
 have hf:([(mv p q r).x,(mv p q r).y,(mv p q r).z,mw p q r].foldl eu 0).natAbs=Nat.gcd (Nat.gcd (mv p q r).x.natAbs (mv p q r).y.natAbs) (Nat.gcd (mv p q r).z.natAbs (mw p q r).natAbs):=by
  rw[Gc0,<- kg2];rfl
 unfold mpt;by_cases h0:mw p q r=0
 ·rw[bt (by rw[h0];rfl),if_pos h0]
  rfl
 ·have hz:(mw p q r==0)=false:=by simpa using h0
  rw[bf hz,if_neg h0];have hgp:=ld0 (v:=mv p q r) h0;have hgl:=Xe7 (v:=mv p q r) h0;have hge:=Jf3 _ (by simp) hb (by rw[hf];unfold gc at hgl;unfold Sm at hw;omega)
  have hgv:Vb3 [(mv p q r).x,(mv p q r).y,(mv p q r).z,mw p q r]=gc (mv p q r) (mw p q r):=by
   unfold Vb3;rw[hge,hf];rfl
  have hgg:Vb4 [(mv p q r).x,(mv p q r).y,(mv p q r).z,mw p q r]=true:=by
   unfold Vb4;rw[hge];rfl
  rw[hgv,bt hgg];generalize hG:gc (mv p q r) (mw p q r)=G at *
  have hGW:W (0-G)=-G:=by unfold Sm at hw;rw[ka2 (by omega) (by omega)];omega
  have hGn:(-G==0)=false:=by simp;omega
  have hGp:(G==0)=false:=by simp;omega
  by_cases h1:mw p q r<0
  ·rw[bt (decide_eq_true h1),if_pos h1];simp only[hGW];rw[bf hGn,bf hGn,bf hGn,bf hGn];simp only[Int.tdiv_neg,<- Int.neg_tdiv];have neg:∀{n x:Int},Sm n x->Sm n (-x):=λh=>⟨by have:=h.2;omega,by have:=h.1;omega⟩
   rw[La2 ((L1 (neg v1) hgp).mono (by omega)),La2 ((L1 (neg v2) hgp).mono (by omega)),La2 ((L1 (neg v3) hgp).mono (by omega)),La2 ((L1 (neg hw) hgp).mono (by omega))]
   rfl
  ·rw[bf (decide_eq_false h1),if_neg h1,bf hGp,bf hGp,bf hGp,bf hGp];rw[La2 ((L1 v1 hgp).mono (by omega)),La2 ((L1 v2 hgp).mono (by omega)),La2 ((L1 v3 hgp).mono (by omega)),La2 ((L1 hw hgp).mono (by omega))]
   rfl
theorem Jf5{p q r:Pln}(hp:Bd p)(hq:Bd q)(hr:Bd r):ob0 ⟨p,q,r⟩=mpt p q r:=by unfold ob0;rw[ye4 hp hq hr];rfl
theorem Jf6{p q r:Pln}(hp:Bd p)(hq:Bd q)(hr:Bd r):ob1 ⟨p,q,r⟩=true:=by unfold ob1;rw[ye4 hp hq hr];rfl
theorem de3{p q r:Pln}(hp:Bd p)(hq:Bd q)(hr:Bd r):Bb0 p q r=some (.tup [.agg (tX.row (mpt p q r).1),b (mpt p q r).2],[]):=by
 have hw:=Xe5 hp hq hr;obtain⟨v1,v2,v3⟩:=Xe6 hp hq hr;have e1:Ga4 p.n (ba1 q.n r.n)=mw p q r:=by
  rw[Gc2];unfold Ga4;simp only[Ab3,fc6,Se9];show W (dot p.n (d9 q.n r.n))=_;rw[show dot p.n (d9 q.n r.n)=mw p q r from rfl,La2 (hw.mono (by omega))]
 have e2:yb5 (yb5 (Y1 (ba1 q.n r.n) p.b) (Y1 (ba1 r.n p.n) q.b)) (Y1 (ba1 p.n q.n) r.b)=mv p q r:=by
  rw[Gc2,Gc2,Gc2];unfold yb5 Y1;simp only[Ab3,fc6,pe5];show (⟨W (mv p q r).x,W (mv p q r).y,W (mv p q r).z⟩:V3)=_;rw[La2 (v1.mono (by omega)),La2 (v2.mono (by omega)),La2 (v3.mono (by omega))]
 have neg:∀{n x:Int},Sm n x->Sm n (-x):=λh=>⟨by have:=h.2;omega,by have:=h.1;omega⟩
 have e3:Y1 (mv p q r) (-1)=⟨-(mv p q r).x,-(mv p q r).y,-(mv p q r).z⟩:=by
  unfold Y1
  have:∀x:Int,x*-1=-x:=λx=>by omega
  simp only[this];rw[La2 ((neg v1).mono (by omega)),La2 ((neg v2).mono (by omega)),La2 ((neg v3).mono (by omega))]
 have ab:∀{x:Int},Sm 300000000000000 x->(if W (0-x)>x then W (0-x) else x)=(x.natAbs:Int):=λ{x} h=>by
  have:W (0-x)=-x:=by rw[show 0-x=-x by omega];exact La2 ((neg h).mono (by omega))
  rw[this]
  split<;>omega
 unfold Bb0;simp only[e1,e2,e3];rw[ab v1,ab v2,ab v3,ab (neg v1),ab (neg v2),ab (neg v3)];simp only[Int.natAbs_neg];unfold mpt;by_cases h0:mw p q r=0
 ·rw[bt (by rw[h0];rfl),if_pos h0]
  rfl
 ·have hz:(mw p q r==0)=false:=by simpa using h0
  rw[bf hz,if_neg h0];have hgp:=ld0 (v:=mv p q r) h0;have hgl:=Xe7 (v:=mv p q r) h0;have hw0:=hw;unfold Sm at hw0;have q1:((mv p q r).y.natAbs:Int)<=9223372036854775807:=by unfold Sm at v2;omega
  have k1:=kd8 ((mv p q r).x.natAbs:Int) ((mv p q r).y.natAbs:Int) (by omega) (by omega) q1
  have k2:=kd9 ((mv p q r).x.natAbs:Int) ((mv p q r).y.natAbs:Int) (by omega) (by omega) q1
  have c1:Int.gcd ((mv p q r).x.natAbs:Int) ((mv p q r).y.natAbs:Int)=Nat.gcd (mv p q r).x.natAbs (mv p q r).y.natAbs:=by simp[Int.gcd]
  have fin : ∀ w : Int, 0 < w → w.natAbs = (mw p q r).natAbs → Y2 ((mv p q r).z.natAbs : Int) w = (Nat.gcd (mv p q r).z.natAbs (mw p q r).natAbs : Nat) ∧ Y3 ((mv p q r).z.natAbs : Int) w = true ∧
    Y2 (Nat.gcd (mv p q r).x.natAbs (mv p q r).y.natAbs:Nat) (Nat.gcd (mv p q r).z.natAbs (mw p q r).natAbs:Nat)=gc (mv p q r) (mw p q r)/\Y3 (Nat.gcd (mv p q r).x.natAbs (mv p q r).y.natAbs:Nat) (Nat.gcd (mv p q r).z.natAbs (mw p q r).natAbs:Nat)=true:=by
   intro w hw1 hw2;have l1:Nat.gcd (mv p q r).z.natAbs (mw p q r).natAbs<=(mw p q r).natAbs:=Qhd _ (by omega)
   refine⟨?_,kd9 _ _ (by omega) (by omega) (by omega),?_,kd9 _ _ (by omega) (by omega) (by omega)⟩
   ·rw[kd8 _ _ (by omega) (by omega) (by omega)]
    have:Int.gcd ((mv p q r).z.natAbs:Int) w=Nat.gcd (mv p q r).z.natAbs (mw p q r).natAbs:=by unfold Int.gcd;rw[hw2];simp
    rw[this]
   ·rw[kd8 _ _ (by omega) (by omega) (by omega)]
    rfl
  by_cases h1:mw p q r<0
  ·rw[bt (decide_eq_true h1),if_pos h1];have hWw:W (0-mw p q r)=-mw p q r:=by rw[ka2 (by omega) (by omega)];omega
   rw[hWw];obtain⟨f1,f2,f3,f4⟩:=fin (-mw p q r) (by omega) (by omega)
   simp only[k1,k2,c1,f1,f2,f3,f4];generalize gc (mv p q r) (mw p q r)=G at *
   have hGp:(G==0)=false:=by simp;omega
   simp only[hGp];rw[La2 ((L1 (neg v1) hgp).mono (by omega)),La2 ((L1 (neg v2) hgp).mono (by omega)),La2 ((L1 (neg v3) hgp).mono (by omega)),La2 ((L1 (neg hw) hgp).mono (by omega))]
   rfl
  ·rw[bf (decide_eq_false h1),if_neg h1];obtain⟨f1,f2,f3,f4⟩:=fin (mw p q r) (by omega) rfl
   simp only[k1,k2,c1,f1,f2,f3,f4];generalize gc (mv p q r) (mw p q r)=G at *
   have hGp:(G==0)=false:=by simp;omega
   simp only[hGp];rw[La2 ((L1 v1 hgp).mono (by omega)),La2 ((L1 v2 hgp).mono (by omega)),La2 ((L1 v3 hgp).mono (by omega)),La2 ((L1 hw hgp).mono (by omega))]
   rfl
theorem rf8{p q r:Pln}(hp:Bd p)(hq:Bd q)(hr:Bd r):Bb1 p q r=mpt p q r:=by unfold Bb1;rw[de3 hp hq hr];rfl
theorem rf9{p q r:Pln}(hp:Bd p)(hq:Bd q)(hr:Bd r):Bb2 p q r=true:=by unfold Bb2;rw[de3 hp hq hr];rfl
end Go.Ev.Ce
