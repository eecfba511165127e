/- Own work. -/
import Derived.Test.YtekgjjgbdcgldaaGreatChecked
import Derived.Test.YtekgjjgbdcgldaaGreatEvOCePf
import Derived.KernelRfl
import Derived.Shelf.Spec.SlicesGrow
set_option linter.all false
def Qha:=@Eq.trans
def Qhb:=@Nat.gcd_pos_of_pos_right
def Qhc:=@List.getElem?_eq_some_iff
def Qhd:=@Nat.gcd_le_right
def Qhe:=@List.getElem?_replicate
def Qhf:=@Nat.le_refl
namespace Go.Ev.Ce
open Go Go.Ev Go.Proofs
set_option maxRecDepth 1000000
theorem mx:(Tryz.prog).follows .mixedOrders=true:=Checked.mixed Tryz.checked
abbrev Bdq(n:Nat)(pf:PFn):Prop:=Wd6 Tryz.prog n λE=>Fb4 E pf
theorem bdq{f:FuncId}{fn:Func}(hf:(Tryz.prog).funcs[f]?=some fn)(hn:decide (fn.name ≠ "runtime.NumGoroutine")=true:=by kernel_rfl)(hc:Option.isSome (d7 Tryz.prog fn)=true:=by kernel_rfl):Bdq f (got (d7 Tryz.prog fn)):=tf5 mx hf hn (ud9 hc)
theorem b3:Bdq 3 pf3:=bdq Tryz.func3
theorem b4:Bdq 4 pf4:=bdq Tryz.func4
theorem b5:Bdq 5 pf5:=bdq Tryz.func5
theorem b6:Bdq 6 pf6:=bdq Tryz.func6
theorem b12:Bdq 12 Ne2:=bdq Tryz.func12
theorem b23:Bdq 23 lf0:=bdq Tryz.func23
theorem b34:Bdq 34 tf6:=bdq Tryz.func34
theorem b37:Bdq 37 tf7:=bdq Tryz.func37
theorem b40:Bdq 40 lf1:=bdq Tryz.func40
theorem b42:Bdq 42 tf8:=bdq Tryz.func42
theorem b45:Bdq 45 tf9:=bdq Tryz.func45
theorem b47:Bdq 47 lf2:=bdq Tryz.func47
theorem b49:Bdq 49 lf3:=bdq Tryz.func49
theorem b52:Bdq 52 uf0:=bdq Tryz.func52
theorem b53:Bdq 53 uf1:=bdq Tryz.func53
theorem b54:Bdq 54 uf2:=bdq Tryz.func54
theorem b55:Bdq 55 uf3:=bdq Tryz.func55
theorem b56:Bdq 56 uf4:=bdq Tryz.func56
theorem b57:Bdq 57 uf5:=bdq Tryz.func57
theorem b60:Bdq 60 uf6:=bdq Tryz.func60
theorem b61:Bdq 61 uf7:=bdq Tryz.func61
theorem b62:Bdq 62 lf4:=bdq Tryz.func62
theorem b63:Bdq 63 uf8:=bdq Tryz.func63
theorem b70:Bdq 70 uf9:=bdq Tryz.func70
theorem b80:Bdq 80 vf0:=bdq Tryz.func80
theorem b83:Bdq 83 vf1:=bdq Tryz.func83
theorem b84:Bdq 84 vf2:=bdq Tryz.func84
theorem b86:Bdq 86 vf3:=bdq Tryz.func86
theorem b93:Bdq 93 vf4:=bdq Tryz.func93
theorem b94:Bdq 94 lf5:=bdq Tryz.func94
theorem b97:Bdq 97 vf5:=bdq Tryz.func97
theorem b98:Bdq 98 vf6:=bdq Tryz.func98
theorem b99:Wd6 Tryz.prog 99 λE=>Lb1 E df0:=ye1 (h:=h99) mx Tryz.func99 (by kernel_rfl) Tryz.func190 (by kernel_rfl) (ud9 (by kernel_rfl))
theorem vf7:Bdq 100 Ve8:=bdq Tryz.func100
theorem vf8:Bdq 101 ye2:=bdq Tryz.func101
theorem pf1:Bdq 103 lf6:=bdq Tryz.func103
theorem vf9:Bdq 104 lf7:=bdq Tryz.func104
theorem wf0:Bdq 108 lf8:=bdq Tryz.func108
theorem wf1:Bdq 109 lf9:=bdq Tryz.func109
theorem wf2:Bdq 110 mf0:=bdq Tryz.func110
theorem wf3:Bdq 111 mf1:=bdq Tryz.func111
theorem pf2:Bdq 112 mf2:=bdq Tryz.func112
theorem wf4:Bdq 113 mf3:=bdq Tryz.func113
theorem wf5:Bdq 114 mf4:=bdq Tryz.func114
theorem wf6:Bdq 115 mf5:=bdq Tryz.func115
theorem wf7:Bdq 116 mf6:=bdq Tryz.func116
theorem wf8:Bdq 117 mf7:=bdq Tryz.func117
theorem wf9:Bdq 121 mf8:=bdq Tryz.func121
theorem xf0:Bdq 122 mf9:=bdq Tryz.func122
theorem xf1:Bdq 123 ye3:=bdq Tryz.func123
theorem xf2:Bdq 124 nf0:=bdq Tryz.func124
theorem xf3:Bdq 138 Ve9:=bdq Tryz.func138
theorem Ne3:Bdq 139 Id3:=bdq Tryz.func139
theorem xf4:Bdq 140 nf1:=bdq Tryz.func140
theorem xf5:Bdq 141 nf2:=bdq Tryz.func141
theorem xf6:Bdq 142 nf3:=bdq Tryz.func142
theorem xf7:Bdq 149 nf4:=bdq Tryz.func149
theorem pf7:Bdq 150 We0:=bdq Tryz.func150
theorem df1:Bdq 151 nf5:=bdq Tryz.func151
theorem xf8:Bdq 152 We1:=bdq Tryz.func152
theorem xf9:Bdq 153 nf6:=bdq Tryz.func153
theorem pf8:Bdq 154 ye4:=bdq Tryz.func154
theorem yf0:Bdq 155 We2:=bdq Tryz.func155
theorem yf1:Bdq 156 nf7:=bdq Tryz.func156
theorem yf2:Bdq 157 nf8:=bdq Tryz.func157
theorem yf3:Bdq 158 nf9:=bdq Tryz.func158
theorem yf4:Bdq 159 We3:=bdq Tryz.func159
theorem pf9:Bdq 161 ye5:=bdq Tryz.func161
theorem yf5:Bdq 163 We4:=bdq Tryz.func163
theorem yf6:Bdq 164 of0:=bdq Tryz.func164
theorem yf7:Bdq 165 of1:=bdq Tryz.func165
theorem yf8:Wd6 Tryz.prog 166 λE=>Lb1 E ye6:=ye1 (h:=kf9) mx Tryz.func166 (by kernel_rfl) Tryz.func193 (by kernel_rfl) (ud9 (by kernel_rfl))
theorem yf9:Wd6 Tryz.prog 167 λE=>Lb1 E de3:=ye1 (h:=kf8) mx Tryz.func167 (by kernel_rfl) Tryz.func221 (by kernel_rfl) (ud9 (by kernel_rfl))
theorem zf0:Bdq 168 of2:=bdq Tryz.func168
theorem zf1:Bdq 169 of3:=bdq Tryz.func169
theorem zf2:Bdq 170 of4:=bdq Tryz.func170
theorem qf0:Bdq 171 ye7:=bdq Tryz.func171
theorem zf3:Bdq 172 of5:=bdq Tryz.func172
theorem zf4:Bdq 179 We5:=bdq Tryz.func179
theorem zf5:Bdq 180 We6:=bdq Tryz.func180
theorem zf6:Bdq 181 de4:=bdq Tryz.func181
theorem zf7:Bdq 182 We7:=bdq Tryz.func182
theorem zf8:Bdq 183 of6:=bdq Tryz.func183
theorem zf9:Bdq 184 of7:=bdq Tryz.func184
theorem Af0:Bdq 186 ye8:=bdq Tryz.func186
theorem Af1:Bdq 191 We8:=bdq Tryz.func191
theorem Af2:Bdq 194 We9:=bdq Tryz.func194
theorem Af3:Bdq 195 of8:=bdq Tryz.func195
theorem Af4:Bdq 196 Xe0:=bdq Tryz.func196
theorem Af5:Bdq 199 Xe1:=bdq Tryz.func199
theorem Af6:Bdq 207 Xe2:=bdq Tryz.func207
theorem Af7:Bdq 208 Xe3:=bdq Tryz.func208
theorem Af8:Bdq 209 of9:=bdq Tryz.func209
theorem Af9:Bdq 210 Xe4:=bdq Tryz.func210
theorem Bf0:Bdq 211 Xe5:=bdq Tryz.func211
theorem Bf1:Bdq 221 Xe6:=bdq Tryz.func221
theorem Bf2:Bdq 222 ye9:=bdq Tryz.func222
theorem Bf3:Bdq 228 pf0:=bdq Tryz.func228
theorem Bf4:Bdq 229 Xe7:=bdq Tryz.func229
end Go.Ev.Ce
namespace Go.Ev.L
open Go Go.Ev
noncomputable def Wb7:RT->PC->PS2
 |.s a b,.seq x y=>.seq (Wb7 a x) (Wb7 b y)
 |.c a b,.cond g x y=>.cond g (Wb7 a x) (Wb7 b y)
 |.b a,.block id x=>.block id (Wb7 a x)
 |.i a,.inner f x n c=>.inner f x n (Wb7 a c)
 |.u S,_=>.sum S
 |_,c=>.pc c
theorem vd0{E:Env}{k:Nat}(rt:RT)(c:PC):Ua5 (λx=>∀s,ba5 (x.1 s) (Q0 E k x.2 s)) (fc5 rt c)->ma1 E k (Wb7 rt c) c:=by
 induction rt generalizing c with
 |p=>intro h;cases c<;>exact .pc _
 |s a b iha ihb =>
  intro h;cases c with
  |seq x y=>exact .seq (iha x (Ua5.app h).1) (ihb y (Ua5.app h).2)
  |_=>exact .pc _
 |c a b iha ihb =>
  intro h;cases c with
  |cond g x y=>exact .cond g (iha x (Ua5.app h).1) (ihb y (Ua5.app h).2)
  |_=>exact .pc _
 |b a iha =>
  intro h;cases c with
  |block id x=>exact .block id (iha x h)
  |_=>exact .pc _
 |l a iha=>intro h;cases c<;>exact .pc _
 |i a iha =>
  intro h;cases c with
  |inner f x n c=>exact .inner f x n (iha c h)
  |_=>exact .pc _
 |u S =>
  intro h
  have:fc5 (.u S) c=[(S,c)]:=by cases c<;>rfl
  rw[this] at h;cases h with
  |cons h t =>
   have e:Wb7 (.u S) c=.sum S:=by cases c<;>rfl
   rw[e];exact .sum h
section
variable{π σ:Type}{E:Env}{k:Nat}{keep:List Nat}{alts:List (Al2 π σ)}{enc:π->σ->St}{step:π->σ->Stp σ}{xs:Xs π σ}{body:PS2}{c:PC}
theorem Vb7.belowM(hb:ma1 E k body c)(hN:E.N=rounds+1)(w:Vb7 Id2 k keep (Ac6 E k body) alts step xs enc)(s:St):ba5 (md1 Id2 k keep alts step xs s) (Q0 E k (.loopM keep c) s):=λr hr=>by
 obtain⟨t,h1,h2⟩:=w.go hr;rw[Wd5,hN];exact Kb3 hb.le _ _ _ (dc1 h1 h2)
theorem Vb7.belowML(hb:ma1 E k body c)(hN:E.N=rounds+1)(w:Vb7 Vb4 k keep (Ac6 E k body) alts step xs enc)(s:St):ba5 (md1 Vb4 k keep alts step xs s) (Q0 E k (.loop keep c) s):=λr hr=>by
 obtain⟨t,h1,h2⟩:=w.go hr;rw[md0,hN];exact Kb3 hb.le _ _ _ (dc1 h1 h2)
end
end Go.Ev.L
namespace Go.Ev.Ab
open Go Go.Ev
@[reducible] def o(d:Nat)(x:PO):PI:=⟨some d,none,[],x⟩
@[reducible] def s(x:PO):PI:=⟨none,none,[],x⟩
@[reducible] def cb(b:Bool):Arg:=.c (.v (.bool b))
@[reducible] def vi(n:Int):a7:=.v (.int .i64 n)
@[reducible] def rep{α:Type}(n:Nat)(x:α):List α:=List.replicate n x
@[reducible] def ki(n:Nat):List CK:=List.replicate n (.int .i64)
@[reducible] def mv(d n:Nat):PI:=o d (.mv (.t n))
@[reducible] def mb(d:Nat)(x:Bool):PI:=o d (.mv (cb x))
@[reducible] def fd(d k n:Nat):PI:=o d (.fld k (.t n))
@[reducible] def bx(d n:Nat):PI:=o d (.box (.t n))
@[reducible] def ex(d x k:Nat):PI:=o d (.ext (.t x) k)
@[reducible] def so(l:List PI)(x:PC):PC:=.seq (.ops l) x
@[reducible] def ts(l:List Nat):List Arg:=l.map .t
@[reducible] def cl(f:Nat)(l:List Nat):PO:=.call f (ts l)
@[reducible] def sT(k a b:Nat):PI:=s (.store k (.t a) (.t b))
@[reducible] def pa(d c x:Nat):PI:=o d (.pick (.t c) (.t x) (cb false))
@[reducible] def po(d c x:Nat):PI:=o d (.pick (.t c) (cb true) (.t x))
@[reducible] def al(d k:Nat)(n:Int):PI:=o d (.alloc (rep k (vi n)))
@[reducible] def ap(d et es n x y:Nat):PI:=o d (.append et es n (.t x) (.t y))
@[reducible] def gm(f:Builtin)(a b t:Nat):PO:=.gen ⟨none,.call ⟨.builtin f,#[.tmp a,.tmp b],#[t,t]⟩,t, "", #[],none⟩ [a,b]
end Go.Ev.Ab
namespace Go.Ev.L
open Go Go.Ev
def Cps{π σ:Type}(u:∀{α:Type},(σ->α)->(Nat->α)->α->π->σ->α):Prop :=
 ∀{α β:Type} (F:α->β) (k:σ->α) (e:Nat->α) (z:α) (p:π) (s:σ),F (u k e z p s)=u (λx=>F (k x)) (λt=>F (e t)) (F z) p s
@[reducible] noncomputable def foL{π σ:Type}(en:π->σ->St)(xs:Xs π σ)(p:π)(s:σ):Stp σ->Option (c9×St):=Vb5 (λs'=>some (.normal,en p s')) (λt=>xOf xs p s t 1) none
structure Lo(π σ:Type) where
 E:Env
 k:Nat
 F:PFn
 at':List Nat
 kp:List Nat
 rt:RT
 al:List (Al2 π σ)
 st:π->σ->Stp σ
 xs:Xs π σ
 en:π->σ->St
namespace Lo
variable{π σ:Type}(L:Lo π σ)
noncomputable def lc:PC:=tf3 L.at' L.F.body
noncomputable def ls:St->DT (c9×St):=md1 Vb4 L.k L.kp L.al L.st L.xs
noncomputable def lsM:St->DT (c9×St):=md1 Id2 L.k L.kp L.al L.st L.xs
noncomputable def pr:(St->DT (c9×St))×PC:=(L.ls,.loop L.kp L.lc)
noncomputable def prM:(St->DT (c9×St))×PC:=(L.lsM,.loopM L.kp L.lc)
def Ok:Prop:=∀s,ga3 L.k L.F.res (L.pr.1 s) (Q0 L.E L.k L.pr.2 s)
def OkE:Prop:=∀s,ba5 (L.pr.1 s) (Q0 L.E L.k L.pr.2 s)
def OkM:Prop:=∀s,ba5 (L.prM.1 s) (Q0 L.E L.k L.prM.2 s)
def Rd(hd:St->DT St)(bd:St->DT (c9×St))(p:π)(s:σ)(a:St)(b:Stp σ):Prop:=(Kb4 hd bd a).run=foL L.en L.xs p s b
def H0:Prop:=∀p s,L.Rd (Vb4 L.k L.kp) (be7 L.E L.k L.F.res (dd5 L.rt L.lc)) p s (L.en p s) (L.st p s)
def H1:Prop:=∀p s,L.Rd (Vb4 L.k L.kp) (Ac6 L.E L.k (Wb7 L.rt L.lc)) p s (L.en p s) (L.st p s)
def H2:Prop:=∀p s,L.Rd (Id2 L.k L.kp) (Ac6 L.E L.k (Wb7 L.rt L.lc)) p s (L.en p s) (L.st p s)
def HA:Prop:=Ua5 (λx=>∀a H,(⟨le5 x.sh a,le6 x.bl H⟩:St)=L.en (x.rd a H).1 (x.rd a H).2) L.al
variable{L}
theorem Rd.of {hd : St → DT St} {bd : St → DT (c9 × St)} {p : π} {s : σ} {a : St} (u : ∀ {α : Type}, (σ → α) → (Nat → α) → α → π → σ → α)
  (q:Cps @u) (H:(Kb4 hd bd a).run=u (λx=>foL L.en L.xs p s (.next x)) (λt=>foL L.en L.xs p s (.exit t)) (foL L.en L.xs p s .fail) p s):L.Rd hd bd p s a (u .next .exit .fail p s) :=
 H.trans (q (foL L.en L.xs p s) Stp.next Stp.exit Stp.fail p s).symm
theorem Rd.sel{hd:St->DT St}{bd:St->DT (c9×St)}{p:π}{s:σ}{a1 a0:St}{b1 b0:Stp σ}(c:Bool)(h1:L.Rd hd bd p s a1 b1)(h0:L.Rd hd bd p s a0 b0):L.Rd hd bd p s (sel c a1 a0) (sel c b1 b0):=by
 cases c with
 |true=>exact h1
 |false=>exact h0
theorem ok(l:List ((St->DT (c9×St))×PC))(hs:fc5 L.rt L.lc=l)(hl:Ua5 (λx=>∀s,ga3 L.k L.F.res (x.1 s) (Q0 L.E L.k x.2 s)) l)(hN:L.E.N=rounds+1)(ha:L.HA)(h:L.H0):L.Ok :=
 Vb7.belowC (ce5 _ _ (by rw[hs];exact hl)) hN ⟨ha,h⟩
theorem okE(l:List ((St->DT (c9×St))×PC))(hs:fc5 L.rt L.lc=l)(hl:Ua5 (λx=>∀s,ba5 (x.1 s) (Q0 L.E L.k x.2 s)) l)(hN:L.E.N=rounds+1)(ha:L.HA)(h:L.H1):L.OkE :=
 Vb7.belowML (vd0 _ _ (by rw[hs];exact hl)) hN ⟨ha,h⟩
theorem okM(l:List ((St->DT (c9×St))×PC))(hs:fc5 L.rt L.lc=l)(hl:Ua5 (λx=>∀s,ba5 (x.1 s) (Q0 L.E L.k x.2 s)) l)(hN:L.E.N=rounds+1)(ha:L.HA)(h:L.H2):L.OkM :=
 Vb7.belowM (vd0 _ _ (by rw[hs];exact hl)) hN ⟨ha,h⟩
end Lo
theorem Da7 {E : Env} {F : PFn} {args : List a7} {blks : List a8} {o : Option (a7 × List a8)} (rt : RT) (l : List ((St → DT (c9 × St)) × PC)) (hs : fc5 rt F.body = l)
  (hl:Ua5 (λx=>∀s,ga3 (len blks) F.res (x.1 s) (Q0 E (len blks) x.2 s)) l) (h:(jf8 E F (dd5 rt F.body) args blks).run=o) (r:a7×List a8) (hr:o=some r):(Fb4 E F args blks).run=some r :=
 Ud8 (ce5 rt _ (by rw[hs];exact hl)) r (h.trans hr)
theorem ze0 {E : Env} {F : PFn} {args : List a7} {blks : List a8} {o : Option (a7 × List a8)} (rt : RT) (l : List ((St → DT (c9 × St)) × PC)) (hs : fc5 rt F.body = l)
  (hl:Ua5 (λx=>∀s,ba5 (x.1 s) (Q0 E (len blks) x.2 s)) l) (h:(Ve7 E F (Wb7 rt F.body) args blks).run=o) (r:a7×List a8) (hr:o=some r):(Lb1 E F args blks).run=some r :=
 Id1 (vd0 rt _ (by rw[hs];exact hl)) r (h.trans hr)
theorem A7{A o:Option (a7×List a8)}(h:A=o)(r:a7×List a8)(hr:o=some r):A=some r:=h.trans hr
noncomputable abbrev upq(x:St)(l:List (Nat×a7)):St:=⟨l.foldl (λa q=>a.set q.1 q.2) x.a,x.H⟩
noncomputable abbrev sIq:S2:=.s (.o (.int .i64))
noncomputable abbrev sUq:S2:=.s (.o .unk)
noncomputable abbrev sBq:S2:=.s (.o .bool)
noncomputable abbrev sPq(n:Nat):S2:=.s (.o (.ptr n 0 0 0))
noncomputable abbrev sTq(n:Nat):S2:=.s (.o (.tree n))
noncomputable abbrev sLq{α:Type}(t:Ty α):S2:=.s (.c t.es (nL t))
noncomputable abbrev kLq(n:Nat):List K:=List.replicate n (.o (.int .i64))
noncomputable abbrev aIq(a:List a7)(n:Nat):Int:=toI (slT a n)
noncomputable abbrev aBq(a:List a7)(n:Nat):Bool:=toB (slT a n)
noncomputable abbrev aNq(a:List a7)(n:Nat):Nat:=toN (slT a n)
noncomputable abbrev aGq(a:List a7)(n:Nat):Nat->List a7:=toG (slT a n)
noncomputable abbrev aLq{α:Type}(t:Ty α)(a:List a7)(n:Nat):List α:=rL t (slT a n)
noncomputable abbrev hIq(H:List a8)(m r n:Nat):Int:=toI (slT (rwT (elT H m) r) n)
noncomputable abbrev cIq(a:List a7)(m n:Nat):Int:=toI (slT (cellsOf (slT a m)) n)
noncomputable abbrev hLq{α:Type}(t:Ty α)(H:List a8)(m r n:Nat):List α:=rL t (slT (rwT (elT H m) r) n)
end Go.Ev.L
namespace Go.Ev.Ce
structure V3 where
 x:Int
 y:Int
 z:Int
structure Pln where
 n:V3
 b:Int
structure Pt where
 px:Int
 py:Int
 pz:Int
 pw:Int
def k9(a b:V3):V3:=⟨a.y*b.z-a.z*b.y,a.z*b.x-a.x*b.z,a.x*b.y-a.y*b.x⟩
def dot(a b:V3):Int:=a.x*b.x+a.y*b.y+a.z*b.z
def mw(p q r:Pln):Int:=dot p.n (k9 q.n r.n)
end Go.Ev.Ce
namespace Go.Ev.Ce
open Go Go.Ev Go.Ev.L Go.Proofs
@[reducible] noncomputable def prog:Program:=Tryz.prog
noncomputable def G:Nat->List Value:=λ_=>[]
noncomputable def En(l:List (Nat×Sum)):Env:={ P:=prog,G,fns:=λ_=>none,call:=bf1 l,own:=λf j=>Bool.and (fb4 f [150,121,154,91,139,144,146,148]) (Nat.beq j 0),N:=18446744073709551616 }
@[reducible] def u:a7:=.v (.tuple #[])
theorem qf1{l:List (Nat×Sum)}(h:g9 prog G l):∀f,e7 (En l).P (En l).G f ((En l).call f):=be6 h
theorem bd{l:List (Nat×Sum)}{f:FuncId}{R:Env->Sum}(b:Wd6 prog f R)(h:g9 prog G l):e7 prog G f (R (En l)):=b rfl (qf1 h)
noncomputable def tV:Ty V3 where
 es:=3
 row x:=[i x.x,i x.y,i x.z]
 rd r:=⟨toI (hdA r),toI (hdA (tlA r)),toI (hdA (tlA (tlA r)))⟩
 ok r:=Ea4 3 r
 cks:=List.replicate 3 (.int .i64)
 d:=⟨0,0,0⟩
 h0 _:=rfl
 h1 _:=rfl
 h2 _:=rfl
 h3 _ h:=.of (bb1 h)
 h4 _:=rfl
 h5 _:=rfl
noncomputable def r1V:R1 V3:=r1A tV 3 λ_ h=>h
noncomputable def tP:Ty Pln where
 es:=4
 row x:=[i x.n.x,i x.n.y,i x.n.z,i x.b]
 rd r:=⟨⟨toI (hdA r),toI (hdA (tlA r)),toI (hdA (tlA (tlA r)))⟩,toI (hdA (tlA (tlA (tlA r))))⟩
 ok r:=Ea4 4 r
 cks:=List.replicate 4 (.int .i64)
 d:=⟨⟨0,0,0⟩,0⟩
 h0 _:=rfl
 h1 _:=rfl
 h2 _:=rfl
 h3 _ h:=.of (bb1 h)
 h4 _:=rfl
 h5 _:=rfl
noncomputable def r1P:R1 Pln:=r1A tP 4 λ_ h=>h
noncomputable def tX:Ty Pt where
 es:=4
 row x:=[i x.px,i x.py,i x.pz,i x.pw]
 rd r:=⟨toI (hdA r),toI (hdA (tlA r)),toI (hdA (tlA (tlA r))),toI (hdA (tlA (tlA (tlA r))))⟩
 ok r:=Ea4 4 r
 cks:=List.replicate 4 (.int .i64)
 d:=⟨0,0,0,0⟩
 h0 _:=rfl
 h1 _:=rfl
 h2 _:=rfl
 h3 _ h:=.of (bb1 h)
 h4 _:=rfl
 h5 _:=rfl
noncomputable def r1X:R1 Pt:=r1A tX 4 λ_ h=>h
structure Tp where
 p:Pln
 q:Pln
 r:Pln
noncomputable def tY:Ty Tp where
 es:=12
 row x:=[i x.p.n.x,i x.p.n.y,i x.p.n.z,i x.p.b,i x.q.n.x,i x.q.n.y,i x.q.n.z,i x.q.b,i x.r.n.x,i x.r.n.y,i x.r.n.z,i x.r.b]
 rd r:=⟨⟨⟨toI (hdA r),toI (hdA (tlA r)),toI (hdA (tlA (tlA r)))⟩,toI (hdA (tlA (tlA (tlA r))))⟩,⟨⟨toI (hdA (tlA (tlA (tlA (tlA r))))),toI (hdA (tlA (tlA (tlA (tlA (tlA r)))))),toI (hdA (tlA (tlA (tlA (tlA (tlA (tlA r)))))))⟩,toI (hdA (tlA (tlA (tlA (tlA (tlA (tlA (tlA r))))))))⟩,⟨⟨toI (hdA (tlA (tlA (tlA (tlA (tlA (tlA (tlA (tlA r))))))))),toI (hdA (tlA (tlA (tlA (tlA (tlA (tlA (tlA (tlA (tlA r)))))))))),toI (hdA (tlA (tlA (tlA (tlA (tlA (tlA (tlA (tlA (tlA (tlA r)))))))))))⟩,toI (hdA (tlA (tlA (tlA (tlA (tlA (tlA (tlA (tlA (tlA (tlA (tlA r))))))))))))⟩⟩
 ok r:=Ea4 12 r
 cks:=List.replicate 12 (.int .i64)
 d:=⟨⟨⟨0,0,0⟩,0⟩,⟨⟨0,0,0⟩,0⟩,⟨⟨0,0,0⟩,0⟩⟩
 h0 _:=rfl
 h1 _:=rfl
 h2 _:=rfl
 h3 _ h:=.of (bb1 h)
 h4 _:=rfl
 h5 _:=rfl
structure Q2 where
 a:V3
 b:V3
set_option maxRecDepth 100000
noncomputable def Id4:List (Nat×Sum):=[]
theorem vd1:g9 prog G Id4:=trivial
noncomputable def Ra5(x:Pln)(y:Pt):Int:=(W ((W ((W ((W (x.b*y.pw))-(W (x.n.x*y.px))))-(W (x.n.y*y.py))))-(W (x.n.z*y.pz))))
noncomputable def Lb4:Sum:=ta3 (oa3 tP) (oa3 tX) (λx y=>.ret ((one r1I).enc (Ra5 x y),[]))
theorem Wb8:e7 prog G 158 Lb4:=Ia9 (bd yf3 vd1) λx y=>A7 (by kernel_rfl)
noncomputable def Wd7:List (Nat×Sum):=[]
theorem Id5:g9 prog G Wd7:=trivial
noncomputable def qb8(x:V3)(y:V3):V3:=(⟨W (x.x+y.x),W (x.y+y.y),W (x.z+y.z)⟩:V3)
noncomputable def nd1:Sum:=ta3 (oa3 tV) (oa3 tV) (λx y=>.ret ((one r1V).enc (qb8 x y),[]))
theorem Wd8:e7 prog G 80 nd1:=Ia9 (bd b80 Id5) λx y=>A7 (by kernel_rfl)
noncomputable def Wd9:List (Nat×Sum):=[]
theorem Id6:g9 prog G Wd9:=trivial
noncomputable def Sa2(x:V3)(y:V3):Int:=(W ((W ((W (x.x*y.x))+(W (x.y*y.y))))+(W (x.z*y.z))))
noncomputable def nd2:Sum:=ta3 (oa3 tV) (oa3 tV) (λx y=>.ret ((one r1I).enc (Sa2 x y),[]))
theorem Xd0:e7 prog G 84 nd2:=Ia9 (bd b84 Id6) λx y=>A7 (by kernel_rfl)
noncomputable def vd2:List (Nat×Sum):=[]
theorem dd7:g9 prog G vd2:=trivial
noncomputable def X8(x:V3)(y:V3):V3:=(⟨W ((W (x.y*y.z))-(W (x.z*y.y))),W ((W (x.z*y.x))-(W (x.x*y.z))),W ((W (x.x*y.y))-(W (x.y*y.x)))⟩:V3)
noncomputable def Gc4:Sum:=ta3 (oa3 tV) (oa3 tV) (λx y=>.ret ((one r1V).enc (X8 x y),[]))
theorem vd3:e7 prog G 164 Gc4:=Ia9 (bd yf6 dd7) λx y=>A7 (by kernel_rfl)
noncomputable def dd8:List (Nat×Sum):=[]
theorem Uc0:g9 prog G dd8:=trivial
noncomputable def U6(x:V3)(y:Int):V3:=(⟨W (x.x*y),W (x.y*y),W (x.z*y)⟩:V3)
noncomputable def sc9:Sum:=ta3 (oa3 tV) cI (λx y=>.ret ((one r1V).enc (U6 x y),[]))
theorem dd9:e7 prog G 228 sc9:=Ia9 (bd Bf3 Uc0) λx y=>A7 (by kernel_rfl)
noncomputable def hc8:List (Nat×Sum):=[]
theorem Uc1:g9 prog G hc8:=trivial
structure Ea5 where
structure ca8 where
 (is0 is1:Int)
noncomputable def Qb0(p:Ea5)(s:ca8):St:=⟨i s.is0::i s.is1::ra 10 [],[]⟩
noncomputable def ta5{α:Type}(k:ca8->α)(e:Nat->α)(z:α)(p:Ea5)(s:ca8):α:=(sl (s.is1 != 0) (sl (s.is1==0) z (k ⟨s.is1,Int.tmod s.is0 s.is1⟩)) (e 1))
noncomputable def ya3(p:Ea5)(s:ca8):Stp ca8:=ta5 .next .exit .fail p s
noncomputable def tb1:Lo Ea5 ca8:=⟨En hc8,0,Xe7,[1,0,4,4],[0,1],.p,[⟨sIq::sIq::ru2 10 [],[],λa H=>(⟨⟩,⟨aIq a 0,aIq a 1⟩)⟩],ya3,[(some 0,λp s=>upq (Qb0 p s) [(5,i s.is1),(6,b (s.is1 != 0))])],Qb0⟩
theorem Ic9:tb1.Ok:=Lo.ok [] (by kernel_rfl) .nil rfl (.cons (λa H=>by kernel_rfl) .nil) λp s=>(.of @ta5 (λF _ _ _ _ _=>by unfold ta5;(repeat' apply l5 (f:=F))<;>rfl) (by kernel_rfl))
noncomputable def Ua8(x:Int)(y:Int):Option (a7×List a8):=let t1:=(lp (ya3 (⟨⟩:Ea5)) (⟨x,y⟩:ca8));(sl (Nat.beq t1.1 1) (some (i t1.2.is0,[])) none)
noncomputable def U7(x:Int)(y:Int):Int:=Q5 (one r1I) (Ua8 x y)
noncomputable def U8(x:Int)(y:Int):Bool:=okO (one r1I) (Ua8 x y)
noncomputable def tc0:Sum:=ta3 cI cI (λx y=>.guard (U8 x y) (.ret ((one r1I).enc (U7 x y),[])))
theorem ed0:e7 prog G 229 tc0:=Gb0 (bd Bf4 Uc1) (one r1I) (o:=Ua8) λx y=>Da7 (.s .p (.s (.b (.u tb1.ls)) .p)) [tb1.pr] (by kernel_rfl) (.cons Ic9 .nil) (by kernel_rfl)
noncomputable def Id7:List (Nat×Sum):=[(164,Gc4),(84,nd2),(228,sc9),(80,nd1),(229,tc0)]
theorem vd4:g9 prog G Id7:=⟨vd3,Xd0,dd9,Wd8,ed0,trivial⟩
noncomputable def tb2(x:Pln)(y:Pln)(z:Pln):Option (a7×List a8):=let t1:=(X8 y.n z.n);let t2:=(Sa2 x.n t1);let t3:=(U6 t1 x.b);let t4:=(X8 z.n x.n);let t5:=(U6 t4 y.b);let t6:=(qb8 t3 t5);let t7:=(X8 x.n y.n);let t8:=(U6 t7 z.b);let t9:=(qb8 t6 t8);let t10:=(U6 t9 (-1));let t11:=(U7 (if (W (0-t10.x))>t10.x then (W (0-t10.x)) else t10.x) (if (W (0-t10.y))>t10.y then (W (0-t10.y)) else t10.y));let t12:=(U7 (if (W (0-t10.z))>t10.z then (W (0-t10.z)) else t10.z) (W (0-t2)));let t13:=(U7 t11 t12);let t14:=(U7 (if (W (0-t9.x))>t9.x then (W (0-t9.x)) else t9.x) (if (W (0-t9.y))>t9.y then (W (0-t9.y)) else t9.y));let t15:=(U7 (if (W (0-t9.z))>t9.z then (W (0-t9.z)) else t9.z) t2);let t16:=(U7 t14 t15);(sl (t2==0) (some (.tup [.agg [i 0,i 0,i 0,i 0],b false],[])) (sl (decide (t2<0)) (sl (U8 (if (W (0-t10.x))>t10.x then (W (0-t10.x)) else t10.x) (if (W (0-t10.y))>t10.y then (W (0-t10.y)) else t10.y)) (sl (U8 (if (W (0-t10.z))>t10.z then (W (0-t10.z)) else t10.z) (W (0-t2))) (sl (U8 t11 t12) (sl (t13==0) none (sl (t13==0) none (sl (t13==0) none (sl (t13==0) none (some (.tup [.agg [i (W (Int.tdiv t10.x t13)),i (W (Int.tdiv t10.y t13)),i (W (Int.tdiv t10.z t13)),i (W (Int.tdiv (W (0-t2)) t13))],b true],[])))))) none) none) none) (sl (U8 (if (W (0-t9.x))>t9.x then (W (0-t9.x)) else t9.x) (if (W (0-t9.y))>t9.y then (W (0-t9.y)) else t9.y)) (sl (U8 (if (W (0-t9.z))>t9.z then (W (0-t9.z)) else t9.z) t2) (sl (U8 t14 t15) (sl (t16==0) none (sl (t16==0) none (sl (t16==0) none (sl (t16==0) none (some (.tup [.agg [i (W (Int.tdiv t9.x t16)),i (W (Int.tdiv t9.y t16)),i (W (Int.tdiv t9.z t16)),i (W (Int.tdiv t2 t16))],b true],[])))))) none) none) none)))
noncomputable def tb3(x:Pln)(y:Pln)(z:Pln):Pt×Bool:=Q5 (two r1X r1B) (tb2 x y z)
noncomputable def tb4(x:Pln)(y:Pln)(z:Pln):Bool:=okO (two r1X r1B) (tb2 x y z)
noncomputable def Uc2:Sum:=Sc3 (oa3 tP) (oa3 tP) (oa3 tP) (λx y z=>.guard (tb4 x y z) (.ret ((two r1X r1B).enc (tb3 x y z),[])))
theorem Id8:e7 prog G 209 Uc2:=Le3 (bd Af8 vd4) (two r1X r1B) (o:=tb2) λx y z=>A7 (by kernel_rfl)
noncomputable def nd3:List (Nat×Sum):=[(158,Lb4)]
theorem Xd1:g9 prog G nd3:=⟨Wb8,trivial⟩
structure tb5 where
 b9:List Pln
 (j9 i5 k8 i9:Int)
structure wa3 where
 is5:Int
noncomputable def Gc5(p:tb5)(s:wa3):St:=⟨eL tP p.b9::.unk::.unk::.ptr 0 0 0 0::.unk::i s.is5::ra 13 [],[⟨0,4,[[i p.j9,i p.i5,i p.k8,i p.i9]],true,false,0⟩]⟩
noncomputable def Ua9{α:Type}(k:wa3->α)(e:Nat->α)(z:α)(p:tb5)(s:wa3):α:=let t1:=(Ra5 (gL tP p.b9 s.is5.toNat) (⟨p.j9,p.i5,p.k8,p.i9⟩:Pt));(sl (decide (s.is5<(↑(List.length p.b9):Int))) (sl (inB s.is5 (List.length p.b9)) (sl (decide (t1<0)) (e 1) (k ⟨W (s.is5+1)⟩)) z) (e 2))
noncomputable def fb7(p:tb5)(s:wa3):Stp wa3:=Ua9 .next .exit .fail p s
noncomputable def mc2:Lo tb5 wa3:=⟨En nd3,0,Xe4,[1,0,1,4,4],[0,3,5],.p,[⟨sLq tP::sUq::sUq::sPq 0::sUq::sIq::ru2 13 [],[⟨0,4,true,some [kLq 4]⟩],λa H=>(⟨aLq tP a 0,hIq H 0 0 0,hIq H 0 0 1,hIq H 0 0 2,hIq H 0 0 3⟩,⟨aIq a 5⟩)⟩],fb7,[(none,λp s=>⟨[b false],[]⟩),(some 0,λp s=>upq (Gc5 p s) [(6,i s.is5),(7,eL tP p.b9),(8,i (↑(List.length p.b9):Int)),(9,b (decide (s.is5<(↑(List.length p.b9):Int))))])],Gc5⟩
theorem Id9:mc2.Ok:=Lo.ok [] (by kernel_rfl) .nil rfl (.cons (λa H=>by kernel_rfl) .nil) λp s=>(.of @Ua9 (λF _ _ _ _ _=>by unfold Ua9;(repeat' apply l5 (f:=F))<;>rfl) (by kernel_rfl))
noncomputable def Wb9(x:List Pln)(y:Pt):Option (a7×List a8):=let t1:=(lp (fb7 (⟨rt tP x,y.px,y.py,y.pz,y.pw⟩:tb5)) (⟨0⟩:wa3));(sl ((cnE tP x)&&true) (sl (Nat.beq t1.1 1) (some (b false,[])) (sl (Nat.beq t1.1 2) (some (b true,[])) none)) none)
noncomputable def Gb4(x:List Pln)(y:Pt):Bool:=Q5 (one r1B) (Wb9 x y)
noncomputable def Gb5(x:List Pln)(y:Pt):Bool:=okO (one r1B) (Wb9 x y)
noncomputable def Jd0:Sum:=ta3 (ba7 tP) (oa3 tX) (λx y=>.guard (Gb5 x y) (.ret ((one r1B).enc (Gb4 x y),[])))
theorem ne7:e7 prog G 210 Jd0:=Gb0 (bd Af9 Xd1) (one r1B) (o:=Wb9) λx y=>Da7 (.s .p (.s (.s .p (.b (.u mc2.ls))) .p)) [mc2.pr] (by kernel_rfl) (.cons Id9 .nil) (by kernel_rfl)
noncomputable def tc1:List (Nat×Sum):=[]
theorem ed1:g9 prog G tc1:=trivial
structure Na1 where
 S5:List Pt
 (j9 i5 k8 i9:Int)
structure ba8 where
 is5:Int
noncomputable def Xb0(p:Na1)(s:ba8):St:=⟨eL tX p.S5::.unk::.unk::.ptr 0 0 0 0::.unk::i s.is5::ra 12 [],[⟨0,4,[[i p.j9,i p.i5,i p.k8,i p.i9]],true,false,0⟩]⟩
noncomputable def ya4{α:Type}(k:ba8->α)(e:Nat->α)(z:α)(p:Na1)(s:ba8):α:=(sl (decide (s.is5<(↑(List.length p.S5):Int))) (sl (inB s.is5 (List.length p.S5)) (sl (((gL tX p.S5 s.is5.toNat).px==p.j9)&&(((gL tX p.S5 s.is5.toNat).py==p.i5)&&(((gL tX p.S5 s.is5.toNat).pz==p.k8)&&(((gL tX p.S5 s.is5.toNat).pw==p.i9)&&true)))) (e 1) (k ⟨W (s.is5+1)⟩)) z) (e 2))
noncomputable def Ea6(p:Na1)(s:ba8):Stp ba8:=ya4 .next .exit .fail p s
noncomputable def Cb7:Lo Na1 ba8:=⟨En tc1,0,Xe5,[1,0,1,4,4],[0,3,5],.p,[⟨sLq tX::sUq::sUq::sPq 0::sUq::sIq::ru2 12 [],[⟨0,4,true,some [kLq 4]⟩],λa H=>(⟨aLq tX a 0,hIq H 0 0 0,hIq H 0 0 1,hIq H 0 0 2,hIq H 0 0 3⟩,⟨aIq a 5⟩)⟩],Ea6,[(none,λp s=>⟨[b true],[]⟩),(some 0,λp s=>upq (Xb0 p s) [(6,i s.is5),(7,eL tX p.S5),(8,i (↑(List.length p.S5):Int)),(9,b (decide (s.is5<(↑(List.length p.S5):Int))))])],Xb0⟩
theorem Uc3:Cb7.Ok:=Lo.ok [] (by kernel_rfl) .nil rfl (.cons (λa H=>by kernel_rfl) .nil) λp s=>(.of @ya4 (λF _ _ _ _ _=>by unfold ya4;(repeat' apply l5 (f:=F))<;>rfl) (by kernel_rfl))
noncomputable def fb8(x:List Pt)(y:Pt):Option (a7×List a8):=let t1:=(lp (Ea6 (⟨rt tX x,y.px,y.py,y.pz,y.pw⟩:Na1)) (⟨0⟩:ba8));(sl ((cnE tX x)&&true) (sl (Nat.beq t1.1 1) (some (b true,[])) (sl (Nat.beq t1.1 2) (some (b false,[])) none)) none)
noncomputable def Sa3(x:List Pt)(y:Pt):Bool:=Q5 (one r1B) (fb8 x y)
noncomputable def Sa4(x:List Pt)(y:Pt):Bool:=okO (one r1B) (fb8 x y)
noncomputable def Gc6:Sum:=ta3 (ba7 tX) (oa3 tX) (λx y=>.guard (Sa4 x y) (.ret ((one r1B).enc (Sa3 x y),[])))
theorem vd5:e7 prog G 211 Gc6:=Gb0 (bd Bf0 ed1) (one r1B) (o:=fb8) λx y=>Da7 (.s .p (.s (.s .p (.b (.u Cb7.ls))) .p)) [Cb7.pr] (by kernel_rfl) (.cons Uc3 .nil) (by kernel_rfl)
noncomputable def Va0:List (Nat×Sum):=[(209,Uc2),(210,Jd0),(211,Gc6)]
theorem Jc0:g9 prog G Va0:=⟨Id8,ne7,vd5,trivial⟩
structure Q6 where
 b9:List Pln
 (is4 is5:Int)
structure v8 where
 ph:Nat
 is6:Int
 ns3:Nat
 eh0:List (List a7)
noncomputable def Ab1(p:Q6)(s:v8):St:=⟨eL tP p.b9::.unk::.unk::.v (.slice none 0 0)::i p.is4::i p.is5::i s.is6::ra 57 [],[]⟩
noncomputable def Ab2(p:Q6)(s:v8):St:=⟨eL tP p.b9::.unk::.unk::.sl 0 0 s.ns3 0::i p.is4::i p.is5::i s.is6::ra 57 [],[⟨136,4,s.eh0,true,false,0⟩]⟩
noncomputable def Ac7(p:Q6)(s:v8):St:=(sel (Nat.beq s.ph 1) (Ab2 p s) (Ab1 p s))
noncomputable def U9{α:Type}(k:v8->α)(e:Nat->α)(z:α)(p:Q6)(s:v8):α:=let t1:=(tb3 (gL tP p.b9 p.is4.toNat) (gL tP p.b9 p.is5.toNat) (gL tP p.b9 s.is6.toNat));let t2:=(Gb4 (rt tP p.b9) t1.1);let t3:=(Sa3 [] t1.1);(sl (decide (s.is6<(↑(List.length p.b9):Int))) (sl (inB p.is4 (List.length p.b9)) (sl (inB p.is5 (List.length p.b9)) (sl (inB s.is6 (List.length p.b9)) (sl (tb4 (gL tP p.b9 p.is4.toNat) (gL tP p.b9 p.is5.toNat) (gL tP p.b9 s.is6.toNat)) (sl t1.2 (sl (okE tP p.b9) (sl (Gb5 (rt tP p.b9) t1.1) (sl t2 (sl (Sa4 [] t1.1) (sl (!t3) (k ⟨1,W (s.is6+1),1,[[i t1.1.px,i t1.1.py,i t1.1.pz,i t1.1.pw]]⟩) (k ⟨0,W (s.is6+1),0,[]⟩)) z) (k ⟨0,W (s.is6+1),0,[]⟩)) z) z) (k ⟨0,W (s.is6+1),0,[]⟩)) z) z) z) z) (e 1))
noncomputable def V0{α:Type}(k:v8->α)(e:Nat->α)(z:α)(p:Q6)(s:v8):α:=let t1:=(tb3 (gL tP p.b9 p.is4.toNat) (gL tP p.b9 p.is5.toNat) (gL tP p.b9 s.is6.toNat));let t2:=(Gb4 (rt tP p.b9) t1.1);let t3:=(Sa3 (slR tX s.eh0 0 s.ns3) t1.1);(sl (decide (s.is6<(↑(List.length p.b9):Int))) (sl (inB p.is4 (List.length p.b9)) (sl (inB p.is5 (List.length p.b9)) (sl (inB s.is6 (List.length p.b9)) (sl (tb4 (gL tP p.b9 p.is4.toNat) (gL tP p.b9 p.is5.toNat) (gL tP p.b9 s.is6.toNat)) (sl t1.2 (sl (okE tP p.b9) (sl (Gb5 (rt tP p.b9) t1.1) (sl t2 (sl (okS tX s.eh0 0 s.ns3) (sl (Sa4 (slR tX s.eh0 0 s.ns3) t1.1) (sl (!t3) (sl (Nat.beq s.ns3 (len s.eh0)&&Nat.ble ((s.ns3+1)*32) room) (k ⟨1,W (s.is6+1),s.ns3+1,app s.eh0 [[i t1.1.px,i t1.1.py,i t1.1.pz,i t1.1.pw]]⟩) z) (k ⟨1,W (s.is6+1),s.ns3,s.eh0⟩)) z) z) (k ⟨1,W (s.is6+1),s.ns3,s.eh0⟩)) z) z) (k ⟨1,W (s.is6+1),s.ns3,s.eh0⟩)) z) z) z) z) (e 2))
noncomputable def T0(p:Q6)(s:v8):Stp v8:=(sel (Nat.beq s.ph 1) (V0 .next .exit .fail p s) (U9 .next .exit .fail p s))
noncomputable def kb2:Lo Q6 v8:=⟨En Va0,0,de4,[1,1,0,1,4,4,1,0,4,1,4,4,1,0,4,1,4,4],[0,3,4,5,6],.p,[⟨sLq tP::sUq::sUq::.s (.o .nil)::sIq::sIq::sIq::ru2 57 [],[],λa H=>(⟨aLq tP a 0,aIq a 4,aIq a 5⟩,⟨0,aIq a 6,0,[]⟩)⟩,⟨sLq tP::sUq::sUq::.s (.o (.sl 0 0 (some 0) none))::sIq::sIq::sIq::ru2 57 [],[⟨136,4,true,none⟩],λa H=>(⟨aLq tP a 0,aIq a 4,aIq a 5⟩,⟨1,aIq a 6,slN (slT a 3),elT H 0⟩)⟩],T0,[(some 4,λp s=>upq (Ab1 p s) [(25,i s.is6),(26,eL tP p.b9),(27,i (↑(List.length p.b9):Int)),(28,b (decide (s.is6<(↑(List.length p.b9):Int))))]),(some 4,λp s=>upq (Ab2 p s) [(25,i s.is6),(26,eL tP p.b9),(27,i (↑(List.length p.b9):Int)),(28,b (decide (s.is6<(↑(List.length p.b9):Int))))])],Ac7⟩
theorem Ac8:kb2.Ok:=Lo.ok [] (by kernel_rfl) .nil rfl (.cons (λa H=>by kernel_rfl) (.cons (λa H=>by kernel_rfl) .nil)) λp s=>(.sel (Nat.beq s.ph 1) (.of @V0 (λF _ _ _ _ _=>by unfold V0;(repeat' apply l5 (f:=F))<;>rfl) (by kernel_rfl)) (.of @U9 (λF _ _ _ _ _=>by unfold U9;(repeat' apply l5 (f:=F))<;>rfl) (by kernel_rfl)))
structure Q7 where
 is4:Int
structure y6 where
 ph:Nat
 b9:List Pln
 is5:Int
 ns3:Nat
 eh0:List (List a7)
noncomputable def Ab3(p:Q7)(s:y6):St:=⟨eL tP s.b9::.unk::.unk::.v (.slice none 0 0)::i p.is4::i s.is5::ra 58 [],[]⟩
noncomputable def Ab4(p:Q7)(s:y6):St:=⟨eL tP s.b9::.unk::.unk::.sl 0 0 s.ns3 0::i p.is4::i s.is5::ra 58 [],[⟨136,4,s.eh0,true,false,0⟩]⟩
noncomputable def Ac9(p:Q7)(s:y6):St:=(sel (Nat.beq s.ph 1) (Ab4 p s) (Ab3 p s))
noncomputable def V1{α:Type}(k:y6->α)(e:Nat->α)(z:α)(p:Q7)(s:y6):α:=let t1:=(lp (T0 (⟨rt tP s.b9,p.is4,s.is5⟩:Q6)) (⟨0,W (s.is5+1),0,[]⟩:v8));(sl (decide (s.is5<(↑(List.length s.b9):Int))) (sl ((cnE tP s.b9)&&true) (sl (Nat.beq t1.1 1) (k ⟨0,rt tP s.b9,W (s.is5+1),0,[]⟩) (sl (Nat.beq t1.1 2) (k ⟨1,rt tP s.b9,W (s.is5+1),t1.2.ns3,t1.2.eh0⟩) z)) z) (e 1))
noncomputable def V2{α:Type}(k:y6->α)(e:Nat->α)(z:α)(p:Q7)(s:y6):α:=let t1:=(lp (T0 (⟨rt tP s.b9,p.is4,s.is5⟩:Q6)) (⟨1,W (s.is5+1),s.ns3,s.eh0⟩:v8));(sl (decide (s.is5<(↑(List.length s.b9):Int))) (sl ((cnE tP s.b9)&&true) (sl (Nat.beq t1.1 1) (k ⟨0,rt tP s.b9,W (s.is5+1),0,[]⟩) (sl (Nat.beq t1.1 2) (k ⟨1,rt tP s.b9,W (s.is5+1),t1.2.ns3,t1.2.eh0⟩) z)) z) (e 2))
noncomputable def N8(p:Q7)(s:y6):Stp y6:=(sel (Nat.beq s.ph 1) (V2 .next .exit .fail p s) (V1 .next .exit .fail p s))
noncomputable def kb3:Lo Q7 y6:=⟨En Va0,0,de4,[1,1,0,1,4,4,1,0,4,1,4,4],[0,3,4,5],.s .p (.s (.b (.s .p (.b (.u kb2.ls)))) .p),[⟨sLq tP::sUq::sUq::.s (.o .nil)::sIq::sIq::ru2 58 [],[],λa H=>(⟨aIq a 4⟩,⟨0,aLq tP a 0,aIq a 5,0,[]⟩)⟩,⟨sLq tP::sUq::sUq::.s (.o (.sl 0 0 (some 0) none))::sIq::sIq::ru2 58 [],[⟨136,4,true,none⟩],λa H=>(⟨aIq a 4⟩,⟨1,aLq tP a 0,aIq a 5,slN (slT a 3),elT H 0⟩)⟩],N8,[(some 2,λp s=>upq (Ab3 p s) [(17,i s.is5),(18,eL tP s.b9),(19,i (↑(List.length s.b9):Int)),(20,b (decide (s.is5<(↑(List.length s.b9):Int))))]),(some 2,λp s=>upq (Ab4 p s) [(17,i s.is5),(18,eL tP s.b9),(19,i (↑(List.length s.b9):Int)),(20,b (decide (s.is5<(↑(List.length s.b9):Int))))])],Ac9⟩
theorem Bc0:kb3.Ok:=Lo.ok [kb2.pr] (by kernel_rfl) (.cons Ac8 .nil) rfl (.cons (λa H=>by kernel_rfl) (.cons (λa H=>by kernel_rfl) .nil)) λp s=>(.sel (Nat.beq s.ph 1) (.of @V2 (λF _ _ _ _ _=>by unfold V2;(repeat' apply l5 (f:=F))<;>rfl) (by kernel_rfl)) (.of @V1 (λF _ _ _ _ _=>by unfold V1;(repeat' apply l5 (f:=F))<;>rfl) (by kernel_rfl)))
structure X9 where
structure C9 where
 ph:Nat
 b9:List Pln
 is4:Int
 ns3:Nat
 eh0:List (List a7)
noncomputable def Ab5(p:X9)(s:C9):St:=⟨eL tP s.b9::.unk::.unk::.v (.slice none 0 0)::i s.is4::ra 59 [],[]⟩
noncomputable def Ab6(p:X9)(s:C9):St:=⟨eL tP s.b9::.unk::.unk::.sl 0 0 s.ns3 0::i s.is4::ra 59 [],[⟨136,4,s.eh0,true,false,0⟩]⟩
noncomputable def Bc1(p:X9)(s:C9):St:=(sel (Nat.beq s.ph 1) (Ab6 p s) (Ab5 p s))
noncomputable def V4{α:Type}(k:C9->α)(e:Nat->α)(z:α)(p:X9)(s:C9):α:=let t1:=(lp (N8 (⟨s.is4⟩:Q7)) (⟨0,rt tP s.b9,W (s.is4+1),0,[]⟩:y6));(sl (decide (s.is4<(↑(List.length s.b9):Int))) (sl ((cnE tP s.b9)&&true) (sl (Nat.beq t1.1 1) (k ⟨0,t1.2.b9,W (s.is4+1),0,[]⟩) (sl (Nat.beq t1.1 2) (k ⟨1,t1.2.b9,W (s.is4+1),t1.2.ns3,t1.2.eh0⟩) z)) z) (e 1))
noncomputable def V5{α:Type}(k:C9->α)(e:Nat->α)(z:α)(p:X9)(s:C9):α:=let t1:=(lp (N8 (⟨s.is4⟩:Q7)) (⟨1,rt tP s.b9,W (s.is4+1),s.ns3,s.eh0⟩:y6));(sl (decide (s.is4<(↑(List.length s.b9):Int))) (sl ((cnE tP s.b9)&&true) (sl (Nat.beq t1.1 1) (k ⟨0,t1.2.b9,W (s.is4+1),0,[]⟩) (sl (Nat.beq t1.1 2) (k ⟨1,t1.2.b9,W (s.is4+1),t1.2.ns3,t1.2.eh0⟩) z)) z) (e 2))
noncomputable def T1(p:X9)(s:C9):Stp C9:=(sel (Nat.beq s.ph 1) (V5 .next .exit .fail p s) (V4 .next .exit .fail p s))
noncomputable def kb4:Lo X9 C9:=⟨En Va0,0,de4,[1,1,0,1,4,4],[0,3,4],.s .p (.s (.b (.s .p (.b (.u kb3.ls)))) .p),[⟨sLq tP::sUq::sUq::.s (.o .nil)::sIq::ru2 59 [],[],λa H=>(⟨⟩,⟨0,aLq tP a 0,aIq a 4,0,[]⟩)⟩,⟨sLq tP::sUq::sUq::.s (.o (.sl 0 0 (some 0) none))::sIq::ru2 59 [],[⟨136,4,true,none⟩],λa H=>(⟨⟩,⟨1,aLq tP a 0,aIq a 4,slN (slT a 3),elT H 0⟩)⟩],T1,[(some 0,λp s=>upq (Ab5 p s) [(9,i s.is4),(10,eL tP s.b9),(11,i (↑(List.length s.b9):Int)),(12,b (decide (s.is4<(↑(List.length s.b9):Int))))]),(some 0,λp s=>upq (Ab6 p s) [(9,i s.is4),(10,eL tP s.b9),(11,i (↑(List.length s.b9):Int)),(12,b (decide (s.is4<(↑(List.length s.b9):Int))))])],Bc1⟩
theorem Bc2:kb4.Ok:=Lo.ok [kb3.pr] (by kernel_rfl) (.cons Bc0 .nil) rfl (.cons (λa H=>by kernel_rfl) (.cons (λa H=>by kernel_rfl) .nil)) λp s=>(.sel (Nat.beq s.ph 1) (.of @V5 (λF _ _ _ _ _=>by unfold V5;(repeat' apply l5 (f:=F))<;>rfl) (by kernel_rfl)) (.of @V4 (λF _ _ _ _ _=>by unfold V4;(repeat' apply l5 (f:=F))<;>rfl) (by kernel_rfl)))
noncomputable def Na2(x:List Pln):Option (a7×List a8):=let t1:=(lp (T1 (⟨⟩:X9)) (⟨0,rt tP x,0,0,[]⟩:C9));(sl ((cnE tP x)&&true) (sl (Nat.beq t1.1 1) (some (.v (.slice none 0 0),[])) (sl (Nat.beq t1.1 2) (some (.sl 0 0 t1.2.ns3 0,[⟨136,4,t1.2.eh0,true,false,0⟩])) none)) none)
noncomputable def Na3(x:List Pln):List Pt:=Q5 (one (r1L tX)) (Na2 x)
noncomputable def Na4(x:List Pln):Bool:=okO (one (r1L tX)) (Na2 x)
noncomputable def Cb8:Sum:=ca7 (ba7 tP) (λx=>.guard (Na4 x) (.ret ((one (r1L tX)).enc (Na3 x),[])))
theorem Xb1:e7 prog G 181 Cb8:=Ta0 (bd zf6 Jc0) (one (r1L tX)) (o:=Na2) λx=>Da7 (.s .p (.s .p (.s (.s .p (.b (.u kb4.ls))) .p))) [kb4.pr] (by kernel_rfl) (.cons Bc2 .nil) (by kernel_rfl)
noncomputable def Ab7:List (Nat×Sum):=[]
theorem mc3:g9 prog G Ab7:=trivial
@[reducible] noncomputable def bb2:Sum:=Fb4 (En Ab7) We8
theorem Ab8:e7 prog G 191 bb2:=bd Af1 mc3
noncomputable def Jc1:List (Nat×Sum):=[]
theorem Bc3:g9 prog G Jc1:=trivial
noncomputable def Ea7(x:Int):Option (a7×List a8):=(sl (decide (x<0)) (some (i (W (0-x)),[])) (some (i x,[])))
noncomputable def ta6(x:Int):Int:=Q5 (one r1I) (Ea7 x)
noncomputable def ta7(x:Int):Bool:=okO (one r1I) (Ea7 x)
noncomputable def Xb2:Sum:=ca7 cI (λx=>.guard (ta7 x) (.ret ((one r1I).enc (ta6 x),[])))
theorem Jc2:e7 prog G 184 Xb2:=Ta0 (bd zf9 Bc3) (one r1I) (o:=Ea7) λx=>A7 (by kernel_rfl)
noncomputable def Gc7:List (Nat×Sum):=[(184,Xb2),(191,bb2)]
theorem vd6:g9 prog G Gc7:=⟨Jc2,Ab8,trivial⟩
structure oa4 where
 (is6 j9 i5 k8 Da3 Da4 Da5:Int)
structure V6 where
 (is5 is7:Int)
noncomputable def hc9(p:oa4)(s:V6):St:=⟨.unk::.ptr 0 0 0 0::.ptr 1 0 0 0::.unk::.ptr 2 0 0 0::i s.is5::i p.is6::i s.is7::ra 38 [],[⟨0,3,[[i p.j9,i p.i5,i p.k8]],true,false,0⟩,⟨0,3,[[i 0,i 0,i 0]],true,false,0⟩,⟨0,3,[[i p.Da3,i p.Da4,i p.Da5]],true,false,0⟩]⟩
noncomputable def Ea8{α:Type}(k:V6->α)(e:Nat->α)(z:α)(p:oa4)(s:V6):α:=(sl (decide (s.is7>0)) (sl (s.is7==0) z (k ⟨s.is7,Int.tmod s.is5 s.is7⟩)) (e 1))
noncomputable def ia7(p:oa4)(s:V6):Stp V6:=Ea8 .next .exit .fail p s
noncomputable def Lb5:Lo oa4 V6:=⟨En Gc7,0,We4,[1,1,1,0,1,4,4,1,0,4,1,1,4,4],[1,2,4,5,6,7],.p,[⟨sUq::sPq 0::sPq 1::sUq::sPq 2::sIq::sIq::sIq::ru2 38 [],[⟨0,3,true,some [kLq 3]⟩,⟨0,3,true,some [[.o (.lit .i64 0),.o (.lit .i64 0),.o (.lit .i64 0)]]⟩,⟨0,3,true,some [kLq 3]⟩],λa H=>(⟨aIq a 6,hIq H 0 0 0,hIq H 0 0 1,hIq H 0 0 2,hIq H 2 0 0,hIq H 2 0 1,hIq H 2 0 2⟩,⟨aIq a 5,aIq a 7⟩)⟩],ia7,[(some 2,λp s=>upq (hc9 p s) [(23,i s.is7),(24,b (decide (s.is7>0)))])],hc9⟩
theorem ed2:Lb5.Ok:=Lo.ok [] (by kernel_rfl) .nil rfl (.cons (λa H=>by kernel_rfl) .nil) λp s=>(.of @Ea8 (λF _ _ _ _ _=>by unfold Ea8;(repeat' apply l5 (f:=F))<;>rfl) (by kernel_rfl))
noncomputable def tb6(x:V3):Option (a7×List a8):=let t1:=(ta6 x.x);let t2:=(lp (ia7 (⟨0,x.x,x.y,x.z,x.x,x.y,x.z⟩:oa4)) (⟨0,t1⟩:V6));let t3:=(ta6 x.y);let t4:=(lp (ia7 (⟨1,x.x,x.y,x.z,x.x,x.y,x.z⟩:oa4)) (⟨t2.2.is5,t3⟩:V6));let t5:=(ta6 x.z);let t6:=(lp (ia7 (⟨2,x.x,x.y,x.z,x.x,x.y,x.z⟩:oa4)) (⟨t4.2.is5,t5⟩:V6));(sl (x.x==(-9223372036854775808)) (some (.tup [.agg [i 0,i 0,i 0],i 0],[])) (sl (ta7 x.x) (sl (Nat.beq t2.1 1) (sl (x.y==(-9223372036854775808)) (some (.tup [.agg [i 0,i 0,i 0],i 0],[])) (sl (ta7 x.y) (sl (Nat.beq t4.1 1) (sl (x.z==(-9223372036854775808)) (some (.tup [.agg [i 0,i 0,i 0],i 0],[])) (sl (ta7 x.z) (sl (Nat.beq t6.1 1) (sl (t6.2.is5==0) (some (.tup [.agg [i 0,i 0,i 0],i 0],[])) (sl (t6.2.is5==0) none (sl (t6.2.is5==0) none (sl (t6.2.is5==0) none (some (.tup [.agg [i (W (Int.tdiv x.x t6.2.is5)),i (W (Int.tdiv x.y t6.2.is5)),i (W (Int.tdiv x.z t6.2.is5))],i t6.2.is5],[])))))) none) none)) none) none)) none) none))
noncomputable def Ra6(x:V3):V3×Int:=Q5 (two r1V r1I) (tb6 x)
noncomputable def tb7(x:V3):Bool:=okO (two r1V r1I) (tb6 x)
noncomputable def Uc4:Sum:=ca7 (oa3 tV) (λx=>.guard (tb7 x) (.ret ((two r1V r1I).enc (Ra6 x),[])))
theorem Jd1:e7 prog G 163 Uc4:=Ta0 (bd yf5 vd6) (two r1V r1I) (o:=tb6) λx=>Da7 (.s .p (.s .p (.s .p (.s (.s .p (.b (.l (.s .p (.s (.b (.s .p (.s .p (.b (.u Lb5.ls))))) .p))))) .p)))) [Lb5.pr] (by kernel_rfl) (.cons ed2 .nil) (by kernel_rfl)
noncomputable def vd7:List (Nat×Sum):=[(163,Uc4),(191,bb2)]
theorem ed3:g9 prog G vd7:=⟨Jd1,Ab8,trivial⟩
noncomputable def fb9(x:Pln):Option (a7×List a8):=let t1:=(Ra6 x.n);(sl (decide (x.n.x<(-4608))) (some (b false,[])) (sl (decide (x.n.x>4608)) (some (b false,[])) (sl (decide (x.n.y<(-4608))) (some (b false,[])) (sl (decide (x.n.y>4608)) (some (b false,[])) (sl (decide (x.n.z<(-4608))) (some (b false,[])) (sl (decide (x.n.z>4608)) (some (b false,[])) (sl (tb7 x.n) (sl (t1.2==1) (sl (decide (x.b>=(-2097152))) (some (b (decide (x.b<=2097152)),[])) (some (b false,[]))) (some (b false,[]))) none)))))))
noncomputable def gb0(x:Pln):Bool:=Q5 (one r1B) (fb9 x)
noncomputable def gb1(x:Pln):Bool:=okO (one r1B) (fb9 x)
noncomputable def Gc8:Sum:=ca7 (oa3 tP) (λx=>.guard (gb1 x) (.ret ((one r1B).enc (gb0 x),[])))
theorem vd8:e7 prog G 156 Gc8:=Ta0 (bd yf1 ed3) (one r1B) (o:=fb9) λx=>A7 (by kernel_rfl)
noncomputable def tc2:List (Nat×Sum):=[(156,Gc8)]
theorem ed4:g9 prog G tc2:=⟨vd8,trivial⟩
structure Na5 where
 b9:List Pln
structure ba9 where
 is3:Int
noncomputable def Xb3(p:Na5)(s:ba9):St:=⟨eL tP p.b9::.unk::.unk::i s.is3::ra 15 [],[]⟩
noncomputable def ya5{α:Type}(k:ba9->α)(e:Nat->α)(z:α)(p:Na5)(s:ba9):α:=let t1:=(gb0 (gL tP p.b9 s.is3.toNat));(sl (decide (s.is3<(↑(List.length p.b9):Int))) (sl (inB s.is3 (List.length p.b9)) (sl (gb1 (gL tP p.b9 s.is3.toNat)) (sl (!t1) (e 1) (k ⟨W (s.is3+1)⟩)) z) z) (e 2))
noncomputable def Ea9(p:Na5)(s:ba9):Stp ba9:=ya5 .next .exit .fail p s
noncomputable def Cb9:Lo Na5 ba9:=⟨En tc2,0,Ve8,[1,1,0,1,4,4],[0,3],.p,[⟨sLq tP::sUq::sUq::sIq::ru2 15 [],[],λa H=>(⟨aLq tP a 0⟩,⟨aIq a 3⟩)⟩],Ea9,[(none,λp s=>⟨[i 12],[]⟩),(some 0,λp s=>upq (Xb3 p s) [(7,i s.is3),(8,eL tP p.b9),(9,i (↑(List.length p.b9):Int)),(10,b (decide (s.is3<(↑(List.length p.b9):Int))))])],Xb3⟩
theorem Uc5:Cb9.Ok:=Lo.ok [] (by kernel_rfl) .nil rfl (.cons (λa H=>by kernel_rfl) .nil) λp s=>(.of @ya5 (λF _ _ _ _ _=>by unfold ya5;(repeat' apply l5 (f:=F))<;>rfl) (by kernel_rfl))
noncomputable def gb2(x:List Pln):Option (a7×List a8):=let t1:=(lp (Ea9 (⟨rt tP x⟩:Na5)) (⟨0⟩:ba9));(sl (decide ((↑(List.length x):Int)>48)) (some (i 2,[])) (sl ((cnE tP x)&&true) (sl (Nat.beq t1.1 1) (some (i 12,[])) (sl (Nat.beq t1.1 2) (some (i 0,[])) none)) none))
noncomputable def gb3(x:List Pln):Int:=Q5 (one r1I) (gb2 x)
noncomputable def gb4(x:List Pln):Bool:=okO (one r1I) (gb2 x)
noncomputable def Xb4:Sum:=ca7 (ba7 tP) (λx=>.guard (gb4 x) (.ret ((one r1I).enc (gb3 x),[])))
theorem tc3:e7 prog G 100 Xb4:=Ta0 (bd vf7 ed4) (one r1I) (o:=gb2) λx=>Da7 (.s .p (.s .p (.s (.s .p (.b (.u Cb9.ls))) .p))) [Cb9.pr] (by kernel_rfl) (.cons Uc5 .nil) (by kernel_rfl)
noncomputable def Xd2:List (Nat×Sum):=[]
theorem Jd2:g9 prog G Xd2:=trivial
noncomputable def dc9(x:V3)(y:V3):Option (a7×List a8):=(some (.sl 0 0 6 0,[⟨73,4,[[i 1,i 0,i 0,i y.x],[i (-1),i 0,i 0,i (W (0-x.x))],[i 0,i 1,i 0,i y.y],[i 0,i (-1),i 0,i (W (0-x.y))],[i 0,i 0,i 1,i y.z],[i 0,i 0,i (-1),i (W (0-x.z))]],true,false,0⟩]))
noncomputable def ec0(x:V3)(y:V3):List Pln:=Q5 (one (r1L tP)) (dc9 x y)
noncomputable def ec1(x:V3)(y:V3):Bool:=okO (one (r1L tP)) (dc9 x y)
noncomputable def nd4:Sum:=ta3 (oa3 tV) (oa3 tV) (λx y=>.guard (ec1 x y) (.ret ((one (r1L tP)).enc (ec0 x y),[])))
theorem Xd3:e7 prog G 63 nd4:=Gb0 (bd b63 Jd2) (one (r1L tP)) (o:=dc9) λx y=>A7 (by kernel_rfl)
noncomputable def Xd4:List (Nat×Sum):=[(63,nd4)]
theorem Jd3:g9 prog G Xd4:=⟨Xd3,trivial⟩
noncomputable def Gb6(x:List Pln):Option (a7×List a8):=let t1:=(ec0 (⟨-24,-24,-24⟩:V3) (⟨24,24,24⟩:V3));(sl (Nat.beq 0 0&&Nat.ble ((0+(len (n5 (λk=>(tP).row (gL tP x k)) (List.range (List.length x)))))*32) room) (sl (ec1 (⟨-24,-24,-24⟩:V3) (⟨24,24,24⟩:V3)) (sl (Nat.beq (0+(len (n5 (λk=>(tP).row (gL tP x k)) (List.range (List.length x))))) (len (app [] (n5 (λk=>(tP).row (gL tP x k)) (List.range (List.length x)))))&&Nat.ble (((0+(len (n5 (λk=>(tP).row (gL tP x k)) (List.range (List.length x)))))+(len (n5 (λk=>(tP).row (gL tP t1 k)) (List.range (List.length t1)))))*32) room) (some ((.sl 0 0 ((0+(len (n5 (λk=>(tP).row (gL tP x k)) (List.range (List.length x)))))+(len (n5 (λk=>(tP).row (gL tP t1 k)) (List.range (List.length t1))))) 0),[⟨73,4,(app (app [] (n5 (λk=>(tP).row (gL tP x k)) (List.range (List.length x)))) (n5 (λk=>(tP).row (gL tP t1 k)) (List.range (List.length t1)))),true,false,0⟩])) none) none) none)
noncomputable def Gb7(x:List Pln):List Pln:=Q5 (one (r1L tP)) (Gb6 x)
noncomputable def Gb8(x:List Pln):Bool:=okO (one (r1L tP)) (Gb6 x)
noncomputable def Bc4:Sum:=ca7 (ba7 tP) (λx=>.guard (Gb8 x) (.ret ((one (r1L tP)).enc (Gb7 x),[])))
theorem Uc6:e7 prog G 124 Bc4:=Ta0 (bd xf2 Jd3) (one (r1L tP)) (o:=Gb6) λx=>A7 (by kernel_rfl)
noncomputable def ed5:List (Nat×Sum):=[(100,Xb4),(124,Bc4),(181,Cb8)]
theorem Uc7:g9 prog G ed5:=⟨tc3,Uc6,Xb1,trivial⟩
noncomputable def Va1(x:List Pln):Option (a7×List a8):=let t1:=(gb3 (rt tP x));let t2:=(Gb7 (rt tP x));let t3:=(Na3 (rt tP t2));(sl (okE tP x) (sl (gb4 (rt tP x)) (sl (t1 != 0) (some (.v (.slice none 0 0),[])) (sl (okE tP x) (sl (Gb8 (rt tP x)) (sl (okE tP t2) (sl (Na4 (rt tP t2)) (some (eL tX t3,[])) none) none) none) none)) none) none)
noncomputable def nb9(x:List Pln):List Pt:=Q5 (one (r1L tX)) (Va1 x)
noncomputable def ob0(x:List Pln):Bool:=okO (one (r1L tX)) (Va1 x)
noncomputable def tc4:Sum:=ca7 (ba7 tP) (λx=>.guard (ob0 x) (.ret ((one (r1L tX)).enc (nb9 x),[])))
theorem ed6:e7 prog G 157 tc4:=Ta0 (bd yf2 Uc7) (one (r1L tX)) (o:=Va1) λx=>A7 (by kernel_rfl)
noncomputable def Xb5:List (Nat×Sum):=[(181,Cb8),(158,Lb4)]
theorem vd9:g9 prog G Xb5:=⟨Xb1,Wb8,trivial⟩
structure Va2 where
 b9:List Pln
 S7:List Pt
 is4:Int
structure oa5 where
 bs5:Bool
 is6:Int
noncomputable def ic0(p:Va2)(s:oa5):St:=⟨eL tP p.b9::.unk::.unk::eL tX p.S7::i p.is4::b s.bs5::i s.is6::ra 29 [],[]⟩
noncomputable def Fa0{α:Type}(k:oa5->α)(e:Nat->α)(z:α)(p:Va2)(s:oa5):α:=let t1:=(Ra5 (gL tP p.b9 p.is4.toNat) (gL tX p.S7 s.is6.toNat));(sl (decide (s.is6<(↑(List.length p.S7):Int))) (sl s.bs5 (k ⟨true,W (s.is6+1)⟩) (sl (inB p.is4 (List.length p.b9)) (sl (inB s.is6 (List.length p.S7)) (k ⟨decide (t1>0),W (s.is6+1)⟩) z) z)) (e 1))
noncomputable def Ba3(p:Va2)(s:oa5):Stp oa5:=Fa0 .next .exit .fail p s
noncomputable def Lb6:Lo Va2 oa5:=⟨En Xb5,0,ye3,[1,1,0,1,4,4,1,0,4,1,0,1,4,4],[0,3,4,5,6],.p,[⟨sLq tP::sUq::sUq::sLq tX::sIq::sBq::sIq::ru2 29 [],[],λa H=>(⟨aLq tP a 0,aLq tX a 3,aIq a 4⟩,⟨aBq a 5,aIq a 6⟩)⟩],Ba3,[(some 2,λp s=>upq (ic0 p s) [(15,i s.is6),(16,eL tX p.S7),(17,i (↑(List.length p.S7):Int)),(18,b (decide (s.is6<(↑(List.length p.S7):Int))))])],ic0⟩
theorem ed7:Lb6.Ok:=Lo.ok [] (by kernel_rfl) .nil rfl (.cons (λa H=>by kernel_rfl) .nil) λp s=>(.of @Fa0 (λF _ _ _ _ _=>by unfold Fa0;(repeat' apply l5 (f:=F))<;>rfl) (by kernel_rfl))
structure Va3 where
structure ga5 where
 b9:List Pln
 S7:List Pt
 is4:Int
noncomputable def ic1(p:Va3)(s:ga5):St:=⟨eL tP s.b9::.unk::.unk::eL tX s.S7::i s.is4::ra 31 [],[]⟩
noncomputable def Fa1{α:Type}(k:ga5->α)(e:Nat->α)(z:α)(p:Va3)(s:ga5):α:=let t1:=(lp (Ba3 (⟨rt tP s.b9,rt tX s.S7,s.is4⟩:Va2)) (⟨false,0⟩:oa5));(sl (decide (s.is4<(↑(List.length s.b9):Int))) (sl ((cnE tP s.b9)&&((cnE tX s.S7)&&true)) (sl (Nat.beq t1.1 1) (sl (!t1.2.bs5) (e 1) (k ⟨rt tP s.b9,rt tX s.S7,W (s.is4+1)⟩)) z) z) (e 2))
noncomputable def Na6(p:Va3)(s:ga5):Stp ga5:=Fa1 .next .exit .fail p s
noncomputable def Lb7:Lo Va3 ga5:=⟨En Xb5,0,ye3,[1,1,0,1,4,4],[0,3,4],.s .p (.s (.b (.s .p (.s (.s .p (.b (.u Lb6.ls))) .p))) .p),[⟨sLq tP::sUq::sUq::sLq tX::sIq::ru2 31 [],[],λa H=>(⟨⟩,⟨aLq tP a 0,aLq tX a 3,aIq a 4⟩)⟩],Na6,[(none,λp s=>⟨[b false],[]⟩),(some 0,λp s=>upq (ic1 p s) [(9,i s.is4),(10,eL tP s.b9),(11,i (↑(List.length s.b9):Int)),(12,b (decide (s.is4<(↑(List.length s.b9):Int))))])],ic1⟩
theorem ed8:Lb7.Ok:=Lo.ok [Lb6.pr] (by kernel_rfl) (.cons ed7 .nil) rfl (.cons (λa H=>by kernel_rfl) .nil) λp s=>(.of @Fa1 (λF _ _ _ _ _=>by unfold Fa1;(repeat' apply l5 (f:=F))<;>rfl) (by kernel_rfl))
noncomputable def tb8(x:List Pln):Option (a7×List a8):=let t1:=(Na3 (rt tP x));let t2:=(lp (Na6 (⟨⟩:Va3)) (⟨rt tP x,rt tX t1,0⟩:ga5));(sl (okE tP x) (sl (Na4 (rt tP x)) (sl ((cnE tP x)&&((cnE tX t1)&&true)) (sl (Nat.beq t2.1 1) (some (b false,[])) (sl (Nat.beq t2.1 2) (some (b true,[])) none)) none) none) none)
noncomputable def Lb8(x:List Pln):Bool:=Q5 (one r1B) (tb8 x)
noncomputable def Lb9(x:List Pln):Bool:=okO (one r1B) (tb8 x)
noncomputable def Uc8:Sum:=ca7 (ba7 tP) (λx=>.guard (Lb9 x) (.ret ((one r1B).enc (Lb8 x),[])))
theorem Jd4:e7 prog G 123 Uc8:=Ta0 (bd xf1 vd9) (one r1B) (o:=tb8) λx=>Da7 (.s .p (.s .p (.s (.s .p (.b (.u Lb7.ls))) .p))) [Lb7.pr] (by kernel_rfl) (.cons ed8 .nil) (by kernel_rfl)
noncomputable def Jd5:List (Nat×Sum):=[(100,Xb4),(124,Bc4),(123,Uc8)]
theorem wd0:g9 prog G Jd5:=⟨tc3,Uc6,Jd4,trivial⟩
noncomputable def tb9(x:List Pln):Option (a7×List a8):=let t1:=(gb3 (rt tP x));let t2:=(Gb7 (rt tP x));let t3:=(Lb8 (rt tP t2));(sl (okE tP x) (sl (gb4 (rt tP x)) (sl (t1==0) (sl (okE tP x) (sl (Gb8 (rt tP x)) (sl (okE tP t2) (sl (Lb9 (rt tP t2)) (some (b t3,[])) none) none) none) none) (some (b false,[]))) none) none)
noncomputable def Mb0(x:List Pln):Bool:=Q5 (one r1B) (tb9 x)
noncomputable def Mb1(x:List Pln):Bool:=okO (one r1B) (tb9 x)
noncomputable def Uc9:Sum:=ca7 (ba7 tP) (λx=>.guard (Mb1 x) (.ret ((one r1B).enc (Mb0 x),[])))
theorem Jd6:e7 prog G 70 Uc9:=Ta0 (bd b70 wd0) (one r1B) (o:=tb9) λx=>A7 (by kernel_rfl)
noncomputable def wd1:List (Nat×Sum):=[]
theorem ed9:g9 prog G wd1:=trivial
noncomputable def Sa5(x:V3)(y:V3):Int:=(W ((W ((W (x.x*y.x))+(W (x.y*y.y))))+(W (x.z*y.z))))
noncomputable def Xb6:Sum:=ta3 (oa3 tV) (oa3 tV) (λx y=>.ret ((one r1I).enc (Sa5 x y),[]))
theorem tc5:e7 prog G 83 Xb6:=Ia9 (bd b83 ed9) λx y=>A7 (by kernel_rfl)
noncomputable def wd2:List (Nat×Sum):=[]
theorem fd0:g9 prog G wd2:=trivial
noncomputable def va6(x:V3)(y:V3):V3:=(⟨W (x.x+y.x),W (x.y+y.y),W (x.z+y.z)⟩:V3)
noncomputable def Gc9:Sum:=ta3 (oa3 tV) (oa3 tV) (λx y=>.ret ((one r1V).enc (va6 x y),[]))
theorem wd3:e7 prog G 34 Gc9:=Ia9 (bd b34 fd0) λx y=>A7 (by kernel_rfl)
noncomputable def fd1:List (Nat×Sum):=[]
theorem Vc0:g9 prog G fd1:=trivial
noncomputable def V7(x:V3)(y:Int):V3:=(⟨W (x.x*y),W (x.y*y),W (x.z*y)⟩:V3)
noncomputable def Mb2:Sum:=ta3 (oa3 tV) cI (λx y=>.ret ((one r1V).enc (V7 x y),[]))
theorem ic2:e7 prog G 116 Mb2:=Ia9 (bd wf7 Vc0) λx y=>A7 (by kernel_rfl)
noncomputable def Vc1:List (Nat×Sum):=[]
theorem Jc3:g9 prog G Vc1:=trivial
noncomputable def U3(x:V3)(y:V3):V3:=(⟨W ((W (x.y*y.z))-(W (x.z*y.y))),W ((W (x.z*y.x))-(W (x.x*y.z))),W ((W (x.x*y.y))-(W (x.y*y.x)))⟩:V3)
noncomputable def ic3:Sum:=ta3 (oa3 tV) (oa3 tV) (λx y=>.ret ((one r1V).enc (U3 x y),[]))
theorem Vc2:e7 prog G 142 ic3:=Ia9 (bd xf6 Jc3) λx y=>A7 (by kernel_rfl)
noncomputable def wd4:List (Nat×Sum):=[(83,Xb6)]
theorem fd2:g9 prog G wd4:=⟨tc5,trivial⟩
noncomputable def va7(x:Pln)(y:Pt):Int:=let t1:=(Sa5 x.n (⟨y.px,y.py,y.pz⟩:V3));(W ((W (x.b*y.pw))-t1))
noncomputable def Ab9:Sum:=ta3 (oa3 tP) (oa3 tX) (λx y=>.ret ((one r1I).enc (va7 x y),[]))
theorem Mb3:e7 prog G 153 Ab9:=Ia9 (bd xf9 fd2) λx y=>A7 (by kernel_rfl)
noncomputable def Xb7:List (Nat×Sum):=[]
theorem wd5:g9 prog G Xb7:=trivial
structure Ja0 where
 ab2:List Int
 (is7 is8:Int)
structure oa6 where
 (is3 is5:Int)
noncomputable def ic4(p:Ja0)(s:oa6):St:=⟨ra 3 (i s.is3::.unk::i s.is5::eL tI p.ab2::i p.is7::i p.is8::ra 14 []),[]⟩
noncomputable def Fa2{α:Type}(k:oa6->α)(e:Nat->α)(z:α)(p:Ja0)(s:oa6):α:=(sl (s.is5 != 0) (sl (s.is5==0) z (k ⟨s.is5,Int.tmod s.is3 s.is5⟩)) (e 1))
noncomputable def Na7(p:Ja0)(s:oa6):Stp oa6:=Fa2 .next .exit .fail p s
noncomputable def Mb4:Lo Ja0 oa6:=⟨En Xb7,0,ye9,[1,1,0,1,4,4,1,1,0,4,1,4,4],[3,5,6,7,8],.p,[⟨ru2 3 (sIq::sUq::sIq::sLq tI::sIq::sIq::ru2 14 []),[],λa H=>(⟨aLq tI a 6,aIq a 7,aIq a 8⟩,⟨aIq a 3,aIq a 5⟩)⟩],Na7,[(some 2,λp s=>upq (ic4 p s) [(12,i s.is5),(13,b (s.is5 != 0))])],ic4⟩
theorem fd3:Mb4.Ok:=Lo.ok [] (by kernel_rfl) .nil rfl (.cons (λa H=>by kernel_rfl) .nil) λp s=>(.of @Fa2 (λF _ _ _ _ _=>by unfold Fa2;(repeat' apply l5 (f:=F))<;>rfl) (by kernel_rfl))
structure Va4 where
 is7:Int
structure oa7 where
 is3:Int
 ab2:List Int
 is8:Int
noncomputable def ic5(p:Va4)(s:oa7):St:=⟨ra 3 (i s.is3::.unk::.unk::eL tI s.ab2::i p.is7::i s.is8::ra 14 []),[]⟩
noncomputable def Fa3{α:Type}(k:oa7->α)(e:Nat->α)(z:α)(p:Va4)(s:oa7):α:=let t1:=(lp (Na7 (⟨rt tI s.ab2,p.is7,s.is8⟩:Ja0)) (⟨s.is3,gL tI s.ab2 s.is8.toNat⟩:oa6));(sl (decide (s.is8<p.is7)) (sl (inB s.is8 (List.length s.ab2)) (sl ((cnE tI s.ab2)&&true) (sl (Nat.beq t1.1 1) (k ⟨t1.2.is3,rt tI s.ab2,W (s.is8+1)⟩) z) z) z) (e 1))
noncomputable def Ba4(p:Va4)(s:oa7):Stp oa7:=Fa3 .next .exit .fail p s
noncomputable def Mb5:Lo Va4 oa7:=⟨En Xb7,0,ye9,[1,1,0,1,4,4],[3,6,7,8],.s .p (.s .p (.s (.b (.s .p (.b (.u Mb4.ls)))) .p)),[⟨ru2 3 (sIq::sUq::sUq::sLq tI::sIq::sIq::ru2 14 []),[],λa H=>(⟨aIq a 7⟩,⟨aIq a 3,aLq tI a 6,aIq a 8⟩)⟩],Ba4,[(some 0,λp s=>upq (ic5 p s) [(9,b (decide (s.is8<p.is7)))])],ic5⟩
theorem fd4:Mb5.Ok:=Lo.ok [Mb4.pr] (by kernel_rfl) (.cons fd3 .nil) rfl (.cons (λa H=>by kernel_rfl) .nil) λp s=>(.of @Fa3 (λF _ _ _ _ _=>by unfold Fa3;(repeat' apply l5 (f:=F))<;>rfl) (by kernel_rfl))
noncomputable def ub0(x:List Int):Option (a7×List a8):=let t1:=(lp (Ba4 (⟨(↑(List.length x):Int)⟩:Va4)) (⟨0,rt tI x,0⟩:oa7));(sl ((cnE tI x)&&true) (sl (Nat.beq t1.1 1) (some ((i (if (W (0-t1.2.is3))>t1.2.is3 then (W (0-t1.2.is3)) else t1.2.is3)),[])) none) none)
noncomputable def Mb6(x:List Int):Int:=Q5 (one r1I) (ub0 x)
noncomputable def Mb7(x:List Int):Bool:=okO (one r1I) (ub0 x)
noncomputable def Vc3:Sum:=ca7 (ba7 tI) (λx=>.guard (Mb7 x) (.ret ((one r1I).enc (Mb6 x),[])))
theorem Jd7:e7 prog G 222 Vc3:=Ta0 (bd Bf2 wd5) (one r1I) (o:=ub0) λx=>Da7 (.s .p (.s .p (.s (.s .p (.b (.u Mb5.ls))) .p))) [Mb5.pr] (by kernel_rfl) (.cons fd4 .nil) (by kernel_rfl)
noncomputable def wd6:List (Nat×Sum):=[(142,ic3),(83,Xb6),(116,Mb2),(34,Gc9),(222,Vc3)]
theorem fd5:g9 prog G wd6:=⟨Vc2,tc5,ic2,wd3,Jd7,trivial⟩
noncomputable def gb5(x:Tp):Option (a7×List a8):=let t1:=(U3 x.q.n x.r.n);let t3:=(V7 t1 x.p.b);let t4:=(va6 (⟨0,0,0⟩:V3) t3);let t5:=(U3 x.r.n x.p.n);let t7:=(V7 t5 x.q.b);let t8:=(va6 t4 t7);let t9:=(U3 x.p.n x.q.n);let t10:=(Sa5 x.r.n t9);let t11:=(V7 t9 x.r.b);let t12:=(va6 t8 t11);let t13:=(Mb6 [t12.x,t12.y,t12.z,t10]);(sl (t10==0) (some (.tup [.agg [i 0,i 0,i 0,i 0],b false],[])) (sl (Mb7 [t12.x,t12.y,t12.z,t10]) (sl (decide (t10<0)) (sl ((W (0-t13))==0) none (sl ((W (0-t13))==0) none (sl ((W (0-t13))==0) none (sl ((W (0-t13))==0) none (some (.tup [.agg [i (W (Int.tdiv t12.x (W (0-t13)))),i (W (Int.tdiv t12.y (W (0-t13)))),i (W (Int.tdiv t12.z (W (0-t13)))),i (W (Int.tdiv t10 (W (0-t13))))],b true],[])))))) (sl (t13==0) none (sl (t13==0) none (sl (t13==0) none (sl (t13==0) none (some (.tup [.agg [i (W (Int.tdiv t12.x t13)),i (W (Int.tdiv t12.y t13)),i (W (Int.tdiv t12.z t13)),i (W (Int.tdiv t10 t13))],b true],[]))))))) none))
noncomputable def gb6(x:Tp):Pt×Bool:=Q5 (two r1X r1B) (gb5 x)
noncomputable def gb7(x:Tp):Bool:=okO (two r1X r1B) (gb5 x)
noncomputable def Hc0:Sum:=ca7 (oa3 tY) (λx=>.guard (gb7 x) (.ret ((two r1X r1B).enc (gb6 x),[])))
theorem wd7:e7 prog G 195 Hc0:=Ta0 (bd Af3 fd5) (two r1X r1B) (o:=gb5) λx=>A7 (by kernel_rfl)
structure Qa0 where
 (jb3 jb4 jb5 xb4 j9 i5 k8 i9:Int)
noncomputable def Bc5:List (Nat×Sum):=[(153,Ab9)]
theorem tc6:g9 prog G Bc5:=⟨Mb3,trivial⟩
structure ya6 where
 bs0:Bool
noncomputable def ya7{α:Type}(kk:ya6->α)(x:Qa0):α:=let t1:=(va7 (⟨(⟨x.jb3,x.jb4,x.jb5⟩:V3),x.xb4⟩:Pln) (⟨x.j9,x.i5,x.k8,x.i9⟩:Pt));(kk ⟨decide (t1<0)⟩)
noncomputable def kb5(x:Qa0):ya6:=ya7 (λr=>r) x
noncomputable def bb3(x:Qa0)(r:ya6):DT (a7×List a8):=.ret (b r.bs0,[⟨0,4,[[i x.j9,i x.i5,i x.k8,i x.i9]],true,false,0⟩])
theorem Jc4{α β:Type}(F:α->β)(kk:ya6->α)(x:Qa0):F (ya7 kk x)=ya7 (λr=>F (kk r)) x:=by unfold ya7;(repeat' apply l5 (f:=F))<;>rfl
noncomputable def Qb1:Sum:=Ta1 ⟨[.agg (kLq 4),sPq 0],[⟨0,4,true,some [kLq 4]⟩],λa H=>(⟨cIq a 0 0,cIq a 0 1,cIq a 0 2,cIq a 0 3,hIq H 0 0 0,hIq H 0 0 1,hIq H 0 0 2,hIq H 0 0 3⟩,())⟩ (λx=>bb3 x (kb5 x))
theorem Bc6:e7 prog G 172 Qb1:=L3 (enc:=λx=>⟨[.agg [i x.jb3,i x.jb4,i x.jb5,i x.xb4],.ptr 0 0 0 0],[⟨0,4,[[i x.j9,i x.i5,i x.k8,i x.i9]],true,false,0⟩]⟩) (λa H=>by kernel_rfl) (bd zf3 tc6) λx=>A7 (Qha (b:=ya7 (λr=>(bb3 x r).run) x) (by kernel_rfl) (Jc4 (λr=>(bb3 x r).run) (λr=>r) x).symm)
structure Y4 where
 b9:List Pln
 (j9 i5 k8 i9:Int)
noncomputable def Fa4:List (Nat×Sum):=[(172,Qb1)]
theorem ob1:g9 prog G Fa4:=⟨Bc6,trivial⟩
structure L4 where
 b9:List Pln
 (is7 j9 i5 k8 i9:Int)
structure o6 where
 is8:Int
noncomputable def ya8(p:L4)(s:o6):St:=⟨eL tP p.b9::.fn 172 [.ptr 0 0 0 0]::ra 5 (i p.is7::i s.is8::ra 10 []),[⟨0,4,[[i p.j9,i p.i5,i p.k8,i p.i9]],true,false,0⟩]⟩
noncomputable def G7{α:Type}(k:o6->α)(e:Nat->α)(z:α)(p:L4)(s:o6):α:=let t1:=(kb5 ⟨(gL tP p.b9 s.is8.toNat).n.x,(gL tP p.b9 s.is8.toNat).n.y,(gL tP p.b9 s.is8.toNat).n.z,(gL tP p.b9 s.is8.toNat).b,p.j9,p.i5,p.k8,p.i9⟩);(sl (decide (s.is8<p.is7)) (sl (inB s.is8 (List.length p.b9)) (sl t1.bs0 (e 1) (k ⟨W (s.is8+1)⟩)) z) (e 2))
noncomputable def J5(p:L4)(s:o6):Stp o6:=G7 .next .exit .fail p s
noncomputable def ga6:Lo L4 o6:=⟨En Fa4,1,Id3,[1,0,1,4,4],[0,1,7,8],.p,[⟨sLq tP::.fn 172 [.o (.ptr 0 0 0 0)]::ru2 5 (sIq::sIq::ru2 10 []),[⟨0,4,true,some [kLq 4]⟩],λa H=>(⟨aLq tP a 0,aIq a 7,hIq H 0 0 0,hIq H 0 0 1,hIq H 0 0 2,hIq H 0 0 3⟩,⟨aIq a 8⟩)⟩],J5,[(none,λp s=>⟨[i s.is8],[⟨0,4,[[i p.j9,i p.i5,i p.k8,i p.i9]],true,false,0⟩]⟩),(some 0,λp s=>upq (ya8 p s) [(9,b (decide (s.is8<p.is7)))])],ya8⟩
theorem kb6:ga6.Ok:=Lo.ok [] (by kernel_rfl) .nil rfl (.cons (λa H=>by kernel_rfl) .nil) λp s=>(.of @G7 (λF _ _ _ _ _=>by unfold G7;(repeat' apply l5 (f:=F))<;>rfl) (by kernel_rfl))
structure Y5 where
 alt:Nat
 is0:Int
noncomputable def I0{α:Type}(kk:Y5->α)(x:Y4):α:=let t1:=(lp (J5 (⟨rt tP x.b9,(↑(List.length x.b9):Int),x.j9,x.i5,x.k8,x.i9⟩:L4)) (⟨0⟩:o6));(sl ((cnE tP x.b9)&&true) (sl (Nat.beq t1.1 1) (kk ⟨1,t1.2.is8⟩) (sl (Nat.beq t1.1 2) (kk ⟨1,-1⟩) (kk ⟨0,0⟩))) (kk ⟨0,0⟩))
noncomputable def Y6(x:Y4):Y5:=I0 (λr=>r) x
noncomputable def ja6(x:Y4)(r:Y5):DT (a7×List a8):=(.ite (Nat.beq r.alt 1) (.ret (i r.is0,[⟨0,4,[[i x.j9,i x.i5,i x.k8,i x.i9]],true,false,0⟩])) .fail)
theorem xb8{α β:Type}(F:α->β)(kk:Y5->α)(x:Y4):F (I0 kk x)=I0 (λr=>F (kk r)) x:=by unfold I0;(repeat' apply l5 (f:=F))<;>rfl
noncomputable def Ka3:Sum:=Ta1 ⟨[sLq tP,.fn 172 [.o (.ptr 0 0 0 0)]],[⟨0,4,true,some [kLq 4]⟩],λa H=>(⟨aLq tP a 0,hIq H 0 0 0,hIq H 0 0 1,hIq H 0 0 2,hIq H 0 0 3⟩,())⟩ (λx=>ja6 x (Y6 x))
theorem ub1:e7 prog G 139 Ka3:=L3 (enc:=λx=>⟨[eL tP x.b9,.fn 172 [.ptr 0 0 0 0]],[⟨0,4,[[i x.j9,i x.i5,i x.k8,i x.i9]],true,false,0⟩]⟩) (λa H=>by kernel_rfl) (bd Ne3 ob1) λx=>Da7 (.s .p (.s (.s .p (.b (.u ga6.ls))) .p)) [ga6.pr] (by kernel_rfl) (.cons kb6 .nil) (Qha (b:=I0 (λr=>(ja6 x r).run) x) (by kernel_rfl) (xb8 (λr=>(ja6 x r).run) (λr=>r) x).symm)
structure Q8 where
 b9:List Pln
 (j9 i5 k8 i9:Int)
noncomputable def gb8:List (Nat×Sum):=[(139,Ka3)]
theorem bb4:g9 prog G gb8:=⟨ub1,trivial⟩
structure Q9 where
 alt:Nat
 bs0:Bool
noncomputable def D0{α:Type}(kk:Q9->α)(x:Q8):α:=let t1:=(Y6 ⟨rt tP x.b9,x.j9,x.i5,x.k8,x.i9⟩);(sl ((cnE tP x.b9)&&true) (sl (Nat.beq t1.alt 1) (kk ⟨1,decide (t1.is0>=0)⟩) (kk ⟨0,false⟩)) (kk ⟨0,false⟩))
noncomputable def ea8(x:Q8):Q9:=D0 (λr=>r) x
noncomputable def ca9(x:Q8)(r:Q9):DT (a7×List a8):=(.ite (Nat.beq r.alt 1) (.ret (b r.bs0,[⟨0,4,[[i x.j9,i x.i5,i x.k8,i x.i9]],true,false,0⟩])) .fail)
theorem kb7{α β:Type}(F:α->β)(kk:Q9->α)(x:Q8):F (D0 kk x)=D0 (λr=>F (kk r)) x:=by unfold D0;(repeat' apply l5 (f:=F))<;>rfl
noncomputable def ya9:Sum:=Ta1 ⟨[sLq tP,.fn 172 [.o (.ptr 0 0 0 0)]],[⟨0,4,true,some [kLq 4]⟩],λa H=>(⟨aLq tP a 0,hIq H 0 0 0,hIq H 0 0 1,hIq H 0 0 2,hIq H 0 0 3⟩,())⟩ (λx=>ca9 x (ea8 x))
theorem gb9:e7 prog G 86 ya9:=L3 (enc:=λx=>⟨[eL tP x.b9,.fn 172 [.ptr 0 0 0 0]],[⟨0,4,[[i x.j9,i x.i5,i x.k8,i x.i9]],true,false,0⟩]⟩) (λa H=>by kernel_rfl) (bd b86 bb4) λx=>A7 (Qha (b:=D0 (λr=>(ca9 x r).run) x) (by kernel_rfl) (kb7 (λr=>(ca9 x r).run) (λr=>r) x).symm)
noncomputable def Vc4:List (Nat×Sum):=[(86,ya9)]
theorem Jc5:g9 prog G Vc4:=⟨gb9,trivial⟩
noncomputable def Na8(x:List Pln)(y:Pt):Option (a7×List a8):=let t1:=(ea8 ⟨rt tP x,y.px,y.py,y.pz,y.pw⟩);(sl ((cnE tP x)&&true) (sl (Nat.beq t1.alt 1) (some (b (!t1.bs0),[])) none) none)
noncomputable def ia8(x:List Pln)(y:Pt):Bool:=Q5 (one r1B) (Na8 x y)
noncomputable def ia9(x:List Pln)(y:Pt):Bool:=okO (one r1B) (Na8 x y)
noncomputable def Db0:Sum:=ta3 (ba7 tP) (oa3 tX) (λx y=>.guard (ia9 x y) (.ret ((one r1B).enc (ia8 x y),[])))
theorem Xb8:e7 prog G 115 Db0:=Gb0 (bd wf6 Jc5) (one r1B) (o:=Na8) λx y=>A7 (by kernel_rfl)
noncomputable def Na9:List (Nat×Sum):=[]
theorem xb9:g9 prog G Na9:=trivial
@[reducible] noncomputable def Sa6:Sum:=Fb4 (En Na9) Xe6
theorem Db1:e7 prog G 221 Sa6:=bd Bf1 xb9
noncomputable def Va5:List (Nat×Sum):=[(221,Sa6)]
theorem Gb9:g9 prog G Va5:=⟨Db1,trivial⟩
@[reducible] noncomputable def Za7:Sum:=Fb4 (En Va5) We9
theorem Mb8:e7 prog G 194 Za7:=bd Af2 Gb9
noncomputable def ga7:List (Nat×Sum):=[(195,Hc0),(115,Db0),(194,Za7)]
theorem Hb0:g9 prog G ga7:=⟨wd7,Xb8,Mb8,trivial⟩
structure f9 where
 is3:Int
 y5:List Pln
 (qa5 o3:Int)
 jd4:Nat
 Jb1:Nat->List a7
 (sa6 Ca7:Int)
 He0:Nat
 xb5:Nat->List a7
 ae5:Int
 b8:List Pln
 (aa2 aa3 aa4 aa5 Da3 Da4 Da5 Pb4:Int)
 Ka0:List Pln
structure g7 where
 ph:Nat
 Da9:Int
 qb2:Nat
 (eh6 eh7:List (List a7))
noncomputable def Ka4(p:f9)(s:g7):St:=⟨.unk::.ptr 0 0 0 0::.unk::i p.is3::.ptr 1 0 0 0::.unk::.ptr 2 0 0 0::.unk::.unk::eL tP p.y5::i p.qa5::i p.o3::ra 7 (.tree 4 p.jd4 p.Jb1::i p.sa6::i p.Ca7::ra 9 (.tree 4 p.He0 p.xb5::i p.ae5::i s.Da9::ra 13 (i 0::.unk::.ptr 3 0 0 0::.v (.slice none 0 0)::.ptr 4 0 0 0::.ptr 5 0 0 0::ra 31 []))),[⟨0,1,[[eL tP p.b8]],true,false,0⟩,⟨0,4,[[i p.aa2,i p.aa3,i p.aa4,i p.aa5]],true,false,0⟩,⟨0,4,[[i p.Da3,i p.Da4,i p.Da5,i p.Pb4]],true,false,0⟩,⟨0,1,[[eL tP p.Ka0]],true,false,0⟩,⟨0,0,[[.v (.slice none 0 0)]],true,false,0⟩,⟨0,0,[[.ptr 6 0 0 0]],true,false,0⟩,⟨182,0,[],true,false,0⟩]⟩
noncomputable def Ka5(p:f9)(s:g7):St:=⟨.unk::.ptr 0 0 0 0::.unk::i p.is3::.ptr 1 0 0 0::.unk::.ptr 2 0 0 0::.unk::.unk::eL tP p.y5::i p.qa5::i p.o3::ra 7 (.tree 4 p.jd4 p.Jb1::i p.sa6::i p.Ca7::ra 9 (.tree 4 p.He0 p.xb5::i p.ae5::i s.Da9::ra 13 (i 0::.unk::.ptr 3 0 0 0::.v (.slice none 0 0)::.ptr 4 0 0 0::.ptr 5 0 0 0::ra 31 []))),[⟨0,1,[[eL tP p.b8]],true,false,0⟩,⟨0,4,[[i p.aa2,i p.aa3,i p.aa4,i p.aa5]],true,false,0⟩,⟨0,4,[[i p.Da3,i p.Da4,i p.Da5,i p.Pb4]],true,false,0⟩,⟨0,1,[[eL tP p.Ka0]],true,false,0⟩,⟨0,0,[[.sl 6 0 s.qb2 0]],true,false,0⟩,⟨0,0,[[.ptr 7 0 0 0]],true,false,0⟩,⟨136,4,s.eh6,true,false,0⟩,⟨182,0,s.eh7,true,false,0⟩]⟩
noncomputable def Db2(p:f9)(s:g7):St:=(sel (Nat.beq s.ph 1) (Ka5 p s) (Ka4 p s))
noncomputable def B9{α:Type}(k:g7->α)(e:Nat->α)(z:α)(p:f9)(s:g7):α:=let t1:=(gb6 (⟨(⟨(⟨p.aa2,p.aa3,p.aa4⟩:V3),p.aa5⟩:Pln),(⟨(⟨p.Da3,p.Da4,p.Da5⟩:V3),p.Pb4⟩:Pln),(⟨(⟨toI (hdA (p.xb5 s.Da9.toNat)),toI (hdA (tlA (p.xb5 s.Da9.toNat))),toI (hdA (tlA (tlA (p.xb5 s.Da9.toNat))))⟩:V3),toI (hdA (tlA (tlA (tlA (p.xb5 s.Da9.toNat)))))⟩:Pln)⟩:Tp));let t2:=(ia8 (rt tP p.Ka0) t1.1);(sl (decide (s.Da9<p.ae5)) (sl (inB s.Da9 p.He0) (sl ((Nat.ble 4 (len (p.xb5 s.Da9.toNat)))&&(Ka2 [CK.int .i64,CK.int .i64,CK.int .i64,CK.int .i64] (p.xb5 s.Da9.toNat))) (sl (gb7 (⟨(⟨(⟨p.aa2,p.aa3,p.aa4⟩:V3),p.aa5⟩:Pln),(⟨(⟨p.Da3,p.Da4,p.Da5⟩:V3),p.Pb4⟩:Pln),(⟨(⟨toI (hdA (p.xb5 s.Da9.toNat)),toI (hdA (tlA (p.xb5 s.Da9.toNat))),toI (hdA (tlA (tlA (p.xb5 s.Da9.toNat))))⟩:V3),toI (hdA (tlA (tlA (tlA (p.xb5 s.Da9.toNat)))))⟩:Pln)⟩:Tp)) (sl t1.2 (sl (!(pc4 4 [(0,.int .i64),(1,.int .i64),(2,.int .i64),(3,.int .i64)] [i t1.1.px,i t1.1.py,i t1.1.pz,i t1.1.pw] [])) (sl (okE tP p.Ka0) (sl (ia9 (rt tP p.Ka0) t1.1) (sl t2 (k ⟨1,W (s.Da9+1),1,[[i t1.1.px,i t1.1.py,i t1.1.pz,i t1.1.pw]],Cb1 [(0,.int .i64),(1,.int .i64),(2,.int .i64),(3,.int .i64)] [i t1.1.px,i t1.1.py,i t1.1.pz,i t1.1.pw] [i t1.1.px,i t1.1.py,i t1.1.pz,i t1.1.pw,b true] []⟩) (k ⟨0,W (s.Da9+1),0,[],[]⟩)) z) z) (k ⟨0,W (s.Da9+1),0,[],[]⟩)) (k ⟨0,W (s.Da9+1),0,[],[]⟩)) z) z) z) (e 1))
noncomputable def C0{α:Type}(k:g7->α)(e:Nat->α)(z:α)(p:f9)(s:g7):α:=let t1:=(gb6 (⟨(⟨(⟨p.aa2,p.aa3,p.aa4⟩:V3),p.aa5⟩:Pln),(⟨(⟨p.Da3,p.Da4,p.Da5⟩:V3),p.Pb4⟩:Pln),(⟨(⟨toI (hdA (p.xb5 s.Da9.toNat)),toI (hdA (tlA (p.xb5 s.Da9.toNat))),toI (hdA (tlA (tlA (p.xb5 s.Da9.toNat))))⟩:V3),toI (hdA (tlA (tlA (tlA (p.xb5 s.Da9.toNat)))))⟩:Pln)⟩:Tp));let t2:=(ia8 (rt tP p.Ka0) t1.1);(sl (decide (s.Da9<p.ae5)) (sl (inB s.Da9 p.He0) (sl ((Nat.ble 4 (len (p.xb5 s.Da9.toNat)))&&(Ka2 [CK.int .i64,CK.int .i64,CK.int .i64,CK.int .i64] (p.xb5 s.Da9.toNat))) (sl (gb7 (⟨(⟨(⟨p.aa2,p.aa3,p.aa4⟩:V3),p.aa5⟩:Pln),(⟨(⟨p.Da3,p.Da4,p.Da5⟩:V3),p.Pb4⟩:Pln),(⟨(⟨toI (hdA (p.xb5 s.Da9.toNat)),toI (hdA (tlA (p.xb5 s.Da9.toNat))),toI (hdA (tlA (tlA (p.xb5 s.Da9.toNat))))⟩:V3),toI (hdA (tlA (tlA (tlA (p.xb5 s.Da9.toNat)))))⟩:Pln)⟩:Tp)) (sl t1.2 (sl (!(pc4 4 [(0,.int .i64),(1,.int .i64),(2,.int .i64),(3,.int .i64)] [i t1.1.px,i t1.1.py,i t1.1.pz,i t1.1.pw] s.eh7)) (sl (okE tP p.Ka0) (sl (ia9 (rt tP p.Ka0) t1.1) (sl t2 (sl (Nat.beq s.qb2 (len s.eh6)&&Nat.ble ((s.qb2+1)*32) room) (k ⟨1,W (s.Da9+1),s.qb2+1,app s.eh6 [[i t1.1.px,i t1.1.py,i t1.1.pz,i t1.1.pw]],Cb1 [(0,.int .i64),(1,.int .i64),(2,.int .i64),(3,.int .i64)] [i t1.1.px,i t1.1.py,i t1.1.pz,i t1.1.pw] [i t1.1.px,i t1.1.py,i t1.1.pz,i t1.1.pw,b true] s.eh7⟩) z) (k ⟨1,W (s.Da9+1),s.qb2,s.eh6,s.eh7⟩)) z) z) (k ⟨1,W (s.Da9+1),s.qb2,s.eh6,s.eh7⟩)) (k ⟨1,W (s.Da9+1),s.qb2,s.eh6,s.eh7⟩)) z) z) z) (e 2))
noncomputable def A3(p:f9)(s:g7):Stp g7:=(sel (Nat.beq s.ph 1) (C0 .next .exit .fail p s) (B9 .next .exit .fail p s))
noncomputable def ta8:Lo f9 g7:=⟨En ga7,0,de3,[1,1,1,0,1,4,4,1,4,4,1,1,0,4,1,1,4,4,1,1,0,4,1,1,4,4],[1,3,4,6,9,10,11,19,20,21,31,32,33,47,49,50,51,52],.p,[⟨sUq::sPq 0::sUq::sIq::sPq 1::sUq::sPq 2::sUq::sUq::sLq tP::sIq::sIq::ru2 7 (sTq 4::sIq::sIq::ru2 9 (sTq 4::sIq::sIq::ru2 13 (.s (.o (.lit .i64 0))::sUq::sPq 3::.s (.o .nil)::sPq 4::sPq 5::ru2 31 []))),[⟨0,1,true,some [[.c 4 (nL tP)]]⟩,⟨0,4,true,some [kLq 4]⟩,⟨0,4,true,some [kLq 4]⟩,⟨0,1,true,some [[.c 4 (nL tP)]]⟩,⟨0,0,true,some [[.o .nil]]⟩,⟨0,0,true,some [[.o (.ptr 6 0 0 0)]]⟩,⟨182,0,true,some []⟩],λa H=>(⟨aIq a 3,aLq tP a 9,aIq a 10,aIq a 11,aNq a 19,aGq a 19,aIq a 20,aIq a 21,aNq a 31,aGq a 31,aIq a 32,hLq tP H 0 0 0,hIq H 1 0 0,hIq H 1 0 1,hIq H 1 0 2,hIq H 1 0 3,hIq H 2 0 0,hIq H 2 0 1,hIq H 2 0 2,hIq H 2 0 3,hLq tP H 3 0 0⟩,⟨0,aIq a 33,0,[],[]⟩)⟩,⟨sUq::sPq 0::sUq::sIq::sPq 1::sUq::sPq 2::sUq::sUq::sLq tP::sIq::sIq::ru2 7 (sTq 4::sIq::sIq::ru2 9 (sTq 4::sIq::sIq::ru2 13 (.s (.o (.lit .i64 0))::sUq::sPq 3::.s (.o .nil)::sPq 4::sPq 5::ru2 31 []))),[⟨0,1,true,some [[.c 4 (nL tP)]]⟩,⟨0,4,true,some [kLq 4]⟩,⟨0,4,true,some [kLq 4]⟩,⟨0,1,true,some [[.c 4 (nL tP)]]⟩,⟨0,0,true,some [[.o (.sl 6 0 (some 0) none)]]⟩,⟨0,0,true,some [[.o (.ptr 7 0 0 0)]]⟩,⟨136,4,true,none⟩,⟨182,0,true,none⟩],λa H=>(⟨aIq a 3,aLq tP a 9,aIq a 10,aIq a 11,aNq a 19,aGq a 19,aIq a 20,aIq a 21,aNq a 31,aGq a 31,aIq a 32,hLq tP H 0 0 0,hIq H 1 0 0,hIq H 1 0 1,hIq H 1 0 2,hIq H 1 0 3,hIq H 2 0 0,hIq H 2 0 1,hIq H 2 0 2,hIq H 2 0 3,hLq tP H 3 0 0⟩,⟨1,aIq a 33,slN (slT (rwT (elT H 4) 0) 0),elT H 6,elT H 7⟩)⟩],A3,[(some 4,λp s=>upq (Ka4 p s) [(34,b (decide (s.Da9<p.ae5)))]),(some 4,λp s=>upq (Ka5 p s) [(34,b (decide (s.Da9<p.ae5)))])],Db2⟩
theorem Db3:ta8.OkM:=Lo.okM [] (by kernel_rfl) .nil rfl (.cons (λa H=>by kernel_rfl) (.cons (λa H=>by kernel_rfl) .nil)) λp s=>(.sel (Nat.beq s.ph 1) (.of @C0 (λF _ _ _ _ _=>by unfold C0;(repeat' apply l5 (f:=F))<;>rfl) (by kernel_rfl)) (.of @B9 (λF _ _ _ _ _=>by unfold B9;(repeat' apply l5 (f:=F))<;>rfl) (by kernel_rfl)))
structure g8 where
 (is3 qa5 o3:Int)
 jd4:Nat
 Jb1:Nat->List a7
 (sa6 aa2 aa3 aa4 aa5:Int)
structure i7 where
 ph:Nat
 y5:List Pln
 Ca7:Int
 (b8 ea5:List Pln)
 Oc7:Nat
 (eh5 eh6:List (List a7))
noncomputable def Ka6(p:g8)(s:i7):St:=⟨.unk::.ptr 0 0 0 0::.unk::i p.is3::.ptr 1 0 0 0::ra 4 (eL tP s.y5::i p.qa5::i p.o3::ra 7 (.tree 4 p.jd4 p.Jb1::i p.sa6::i s.Ca7::ra 25 (i 0::.unk::.ptr 2 0 0 0::.v (.slice none 0 0)::.ptr 3 0 0 0::.ptr 4 0 0 0::ra 31 []))),[⟨0,1,[[eL tP s.b8]],true,false,0⟩,⟨0,4,[[i p.aa2,i p.aa3,i p.aa4,i p.aa5]],true,false,0⟩,⟨0,1,[[eL tP s.ea5]],true,false,0⟩,⟨0,0,[[.v (.slice none 0 0)]],true,false,0⟩,⟨0,0,[[.ptr 5 0 0 0]],true,false,0⟩,⟨182,0,[],true,false,0⟩]⟩
noncomputable def Ka7(p:g8)(s:i7):St:=⟨.unk::.ptr 0 0 0 0::.unk::i p.is3::.ptr 1 0 0 0::ra 4 (eL tP s.y5::i p.qa5::i p.o3::ra 7 (.tree 4 p.jd4 p.Jb1::i p.sa6::i s.Ca7::ra 25 (i 0::.unk::.ptr 2 0 0 0::.v (.slice none 0 0)::.ptr 3 0 0 0::.ptr 4 0 0 0::ra 31 []))),[⟨0,1,[[eL tP s.b8]],true,false,0⟩,⟨0,4,[[i p.aa2,i p.aa3,i p.aa4,i p.aa5]],true,false,0⟩,⟨0,1,[[eL tP s.ea5]],true,false,0⟩,⟨0,0,[[.sl 5 0 s.Oc7 0]],true,false,0⟩,⟨0,0,[[.ptr 6 0 0 0]],true,false,0⟩,⟨136,4,s.eh5,true,false,0⟩,⟨182,0,s.eh6,true,false,0⟩]⟩
noncomputable def Db4(p:g8)(s:i7):St:=(sel (Nat.beq s.ph 1) (Ka7 p s) (Ka6 p s))
noncomputable def C3{α:Type}(k:i7->α)(e:Nat->α)(z:α)(p:g8)(s:i7):α:=let t1:=(lp (A3 (⟨p.is3,rt tP s.y5,p.qa5,p.o3,p.jd4,p.Jb1,p.sa6,s.Ca7,(List.length s.b8)-(W ((W (p.is3+s.Ca7))+2)).toNat,(λk=>(λk=>(tP).row (gL tP s.b8 k)) ((W ((W (p.is3+s.Ca7))+2)).toNat+k)),(↑((List.length s.b8)-(W ((W (p.is3+s.Ca7))+2)).toNat):Int),rt tP s.b8,p.aa2,p.aa3,p.aa4,p.aa5,toI (hdA (p.Jb1 s.Ca7.toNat)),toI (hdA (tlA (p.Jb1 s.Ca7.toNat))),toI (hdA (tlA (tlA (p.Jb1 s.Ca7.toNat)))),toI (hdA (tlA (tlA (tlA (p.Jb1 s.Ca7.toNat))))),rt tP s.ea5⟩:f9)) (⟨0,0,0,[],[]⟩:g7));(sl (decide (s.Ca7<p.sa6)) (sl (inB s.Ca7 p.jd4) (sl ((Nat.ble 4 (len (p.Jb1 s.Ca7.toNat)))&&(Ka2 [CK.int .i64,CK.int .i64,CK.int .i64,CK.int .i64] (p.Jb1 s.Ca7.toNat))) (sl (inB (W ((W (p.is3+s.Ca7))+2)) ((List.length s.b8)+1)) (sl ((cnE tP s.y5)&&((cnE tP s.b8)&&((cnE tP s.ea5)&&true))) (sl (Nat.beq t1.1 1) (k ⟨0,rt tP s.y5,W (s.Ca7+1),rt tP s.b8,rt tP s.ea5,0,[],[]⟩) (sl (Nat.beq t1.1 2) (k ⟨1,rt tP s.y5,W (s.Ca7+1),rt tP s.b8,rt tP s.ea5,t1.2.qb2,t1.2.eh6,t1.2.eh7⟩) z)) z) z) z) z) (e 1))
noncomputable def C4{α:Type}(k:i7->α)(e:Nat->α)(z:α)(p:g8)(s:i7):α:=let t1:=(lp (A3 (⟨p.is3,rt tP s.y5,p.qa5,p.o3,p.jd4,p.Jb1,p.sa6,s.Ca7,(List.length s.b8)-(W ((W (p.is3+s.Ca7))+2)).toNat,(λk=>(λk=>(tP).row (gL tP s.b8 k)) ((W ((W (p.is3+s.Ca7))+2)).toNat+k)),(↑((List.length s.b8)-(W ((W (p.is3+s.Ca7))+2)).toNat):Int),rt tP s.b8,p.aa2,p.aa3,p.aa4,p.aa5,toI (hdA (p.Jb1 s.Ca7.toNat)),toI (hdA (tlA (p.Jb1 s.Ca7.toNat))),toI (hdA (tlA (tlA (p.Jb1 s.Ca7.toNat)))),toI (hdA (tlA (tlA (tlA (p.Jb1 s.Ca7.toNat))))),rt tP s.ea5⟩:f9)) (⟨1,0,s.Oc7,s.eh5,s.eh6⟩:g7));(sl (decide (s.Ca7<p.sa6)) (sl (inB s.Ca7 p.jd4) (sl ((Nat.ble 4 (len (p.Jb1 s.Ca7.toNat)))&&(Ka2 [CK.int .i64,CK.int .i64,CK.int .i64,CK.int .i64] (p.Jb1 s.Ca7.toNat))) (sl (inB (W ((W (p.is3+s.Ca7))+2)) ((List.length s.b8)+1)) (sl ((cnE tP s.y5)&&((cnE tP s.b8)&&((cnE tP s.ea5)&&true))) (sl (Nat.beq t1.1 1) (k ⟨0,rt tP s.y5,W (s.Ca7+1),rt tP s.b8,rt tP s.ea5,0,[],[]⟩) (sl (Nat.beq t1.1 2) (k ⟨1,rt tP s.y5,W (s.Ca7+1),rt tP s.b8,rt tP s.ea5,t1.2.qb2,t1.2.eh6,t1.2.eh7⟩) z)) z) z) z) z) (e 2))
noncomputable def A4(p:g8)(s:i7):Stp i7:=(sel (Nat.beq s.ph 1) (C4 .next .exit .fail p s) (C3 .next .exit .fail p s))
noncomputable def ta9:Lo g8 i7:=⟨En ga7,0,de3,[1,1,1,0,1,4,4,1,4,4,1,1,0,4,1,1,4,4],[1,3,4,9,10,11,19,20,21,47,49,50,51,52],.s .p (.s .p (.s (.b (.s .p (.s .p (.b (.u ta8.lsM))))) .p)),[⟨sUq::sPq 0::sUq::sIq::sPq 1::ru2 4 (sLq tP::sIq::sIq::ru2 7 (sTq 4::sIq::sIq::ru2 25 (.s (.o (.lit .i64 0))::sUq::sPq 2::.s (.o .nil)::sPq 3::sPq 4::ru2 31 []))),[⟨0,1,true,some [[.c 4 (nL tP)]]⟩,⟨0,4,true,some [kLq 4]⟩,⟨0,1,true,some [[.c 4 (nL tP)]]⟩,⟨0,0,true,some [[.o .nil]]⟩,⟨0,0,true,some [[.o (.ptr 5 0 0 0)]]⟩,⟨182,0,true,some []⟩],λa H=>(⟨aIq a 3,aIq a 10,aIq a 11,aNq a 19,aGq a 19,aIq a 20,hIq H 1 0 0,hIq H 1 0 1,hIq H 1 0 2,hIq H 1 0 3⟩,⟨0,aLq tP a 9,aIq a 21,hLq tP H 0 0 0,hLq tP H 2 0 0,0,[],[]⟩)⟩,⟨sUq::sPq 0::sUq::sIq::sPq 1::ru2 4 (sLq tP::sIq::sIq::ru2 7 (sTq 4::sIq::sIq::ru2 25 (.s (.o (.lit .i64 0))::sUq::sPq 2::.s (.o .nil)::sPq 3::sPq 4::ru2 31 []))),[⟨0,1,true,some [[.c 4 (nL tP)]]⟩,⟨0,4,true,some [kLq 4]⟩,⟨0,1,true,some [[.c 4 (nL tP)]]⟩,⟨0,0,true,some [[.o (.sl 5 0 (some 0) none)]]⟩,⟨0,0,true,some [[.o (.ptr 6 0 0 0)]]⟩,⟨136,4,true,none⟩,⟨182,0,true,none⟩],λa H=>(⟨aIq a 3,aIq a 10,aIq a 11,aNq a 19,aGq a 19,aIq a 20,hIq H 1 0 0,hIq H 1 0 1,hIq H 1 0 2,hIq H 1 0 3⟩,⟨1,aLq tP a 9,aIq a 21,hLq tP H 0 0 0,hLq tP H 2 0 0,slN (slT (rwT (elT H 3) 0) 0),elT H 5,elT H 6⟩)⟩],A4,[(some 2,λp s=>upq (Ka6 p s) [(22,b (decide (s.Ca7<p.sa6)))]),(some 2,λp s=>upq (Ka7 p s) [(22,b (decide (s.Ca7<p.sa6)))])],Db4⟩
theorem Db5:ta9.OkM:=Lo.okM [ta8.prM] (by kernel_rfl) (.cons Db3 .nil) rfl (.cons (λa H=>by kernel_rfl) (.cons (λa H=>by kernel_rfl) .nil)) λp s=>(.sel (Nat.beq s.ph 1) (.of @C4 (λF _ _ _ _ _=>by unfold C4;(repeat' apply l5 (f:=F))<;>rfl) (by kernel_rfl)) (.of @C3 (λF _ _ _ _ _=>by unfold C3;(repeat' apply l5 (f:=F))<;>rfl) (by kernel_rfl)))
structure r9 where
 qa5:Int
structure l7 where
 ph:Nat
 y5:List Pln
 o3:Int
 (b8 rb2:List Pln)
 B1:Nat
 (eh4 eh5:List (List a7))
noncomputable def Ka8(p:r9)(s:l7):St:=⟨.unk::.ptr 0 0 0 0::ra 7 (eL tP s.y5::i p.qa5::i s.o3::ra 35 (i 0::.unk::.ptr 1 0 0 0::.v (.slice none 0 0)::.ptr 2 0 0 0::.ptr 3 0 0 0::ra 31 [])),[⟨0,1,[[eL tP s.b8]],true,false,0⟩,⟨0,1,[[eL tP s.rb2]],true,false,0⟩,⟨0,0,[[.v (.slice none 0 0)]],true,false,0⟩,⟨0,0,[[.ptr 4 0 0 0]],true,false,0⟩,⟨182,0,[],true,false,0⟩]⟩
noncomputable def Ka9(p:r9)(s:l7):St:=⟨.unk::.ptr 0 0 0 0::ra 7 (eL tP s.y5::i p.qa5::i s.o3::ra 35 (i 0::.unk::.ptr 1 0 0 0::.v (.slice none 0 0)::.ptr 2 0 0 0::.ptr 3 0 0 0::ra 31 [])),[⟨0,1,[[eL tP s.b8]],true,false,0⟩,⟨0,1,[[eL tP s.rb2]],true,false,0⟩,⟨0,0,[[.sl 4 0 s.B1 0]],true,false,0⟩,⟨0,0,[[.ptr 5 0 0 0]],true,false,0⟩,⟨136,4,s.eh4,true,false,0⟩,⟨182,0,s.eh5,true,false,0⟩]⟩
noncomputable def Db6(p:r9)(s:l7):St:=(sel (Nat.beq s.ph 1) (Ka9 p s) (Ka8 p s))
noncomputable def C5{α:Type}(k:l7->α)(e:Nat->α)(z:α)(p:r9)(s:l7):α:=let t1:=(lp (A4 (⟨s.o3,p.qa5,s.o3,(List.length s.b8)-(W (s.o3+1)).toNat,(λk=>(λk=>(tP).row (gL tP s.b8 k)) ((W (s.o3+1)).toNat+k)),(↑((List.length s.b8)-(W (s.o3+1)).toNat):Int),(gL tP s.y5 s.o3.toNat).n.x,(gL tP s.y5 s.o3.toNat).n.y,(gL tP s.y5 s.o3.toNat).n.z,(gL tP s.y5 s.o3.toNat).b⟩:g8)) (⟨0,rt tP s.y5,0,rt tP s.b8,rt tP s.rb2,0,[],[]⟩:i7));(sl (decide (s.o3<p.qa5)) (sl (inB s.o3 (List.length s.y5)) (sl (inB (W (s.o3+1)) ((List.length s.b8)+1)) (sl ((cnE tP s.y5)&&((cnE tP s.b8)&&((cnE tP s.rb2)&&true))) (sl (Nat.beq t1.1 1) (k ⟨0,t1.2.y5,W (s.o3+1),t1.2.b8,t1.2.ea5,0,[],[]⟩) (sl (Nat.beq t1.1 2) (k ⟨1,t1.2.y5,W (s.o3+1),t1.2.b8,t1.2.ea5,t1.2.Oc7,t1.2.eh5,t1.2.eh6⟩) z)) z) z) z) (e 1))
noncomputable def C6{α:Type}(k:l7->α)(e:Nat->α)(z:α)(p:r9)(s:l7):α:=let t1:=(lp (A4 (⟨s.o3,p.qa5,s.o3,(List.length s.b8)-(W (s.o3+1)).toNat,(λk=>(λk=>(tP).row (gL tP s.b8 k)) ((W (s.o3+1)).toNat+k)),(↑((List.length s.b8)-(W (s.o3+1)).toNat):Int),(gL tP s.y5 s.o3.toNat).n.x,(gL tP s.y5 s.o3.toNat).n.y,(gL tP s.y5 s.o3.toNat).n.z,(gL tP s.y5 s.o3.toNat).b⟩:g8)) (⟨1,rt tP s.y5,0,rt tP s.b8,rt tP s.rb2,s.B1,s.eh4,s.eh5⟩:i7));(sl (decide (s.o3<p.qa5)) (sl (inB s.o3 (List.length s.y5)) (sl (inB (W (s.o3+1)) ((List.length s.b8)+1)) (sl ((cnE tP s.y5)&&((cnE tP s.b8)&&((cnE tP s.rb2)&&true))) (sl (Nat.beq t1.1 1) (k ⟨0,t1.2.y5,W (s.o3+1),t1.2.b8,t1.2.ea5,0,[],[]⟩) (sl (Nat.beq t1.1 2) (k ⟨1,t1.2.y5,W (s.o3+1),t1.2.b8,t1.2.ea5,t1.2.Oc7,t1.2.eh5,t1.2.eh6⟩) z)) z) z) z) (e 2))
noncomputable def A5(p:r9)(s:l7):Stp l7:=(sel (Nat.beq s.ph 1) (C6 .next .exit .fail p s) (C5 .next .exit .fail p s))
noncomputable def ua0:Lo r9 l7:=⟨En ga7,0,de3,[1,1,1,0,1,4,4,1,4,4],[1,9,10,11,47,49,50,51,52],.s .p (.s .p (.s (.b (.s .p (.s .p (.b (.u ta9.lsM))))) .p)),[⟨sUq::sPq 0::ru2 7 (sLq tP::sIq::sIq::ru2 35 (.s (.o (.lit .i64 0))::sUq::sPq 1::.s (.o .nil)::sPq 2::sPq 3::ru2 31 [])),[⟨0,1,true,some [[.c 4 (nL tP)]]⟩,⟨0,1,true,some [[.c 4 (nL tP)]]⟩,⟨0,0,true,some [[.o .nil]]⟩,⟨0,0,true,some [[.o (.ptr 4 0 0 0)]]⟩,⟨182,0,true,some []⟩],λa H=>(⟨aIq a 10⟩,⟨0,aLq tP a 9,aIq a 11,hLq tP H 0 0 0,hLq tP H 1 0 0,0,[],[]⟩)⟩,⟨sUq::sPq 0::ru2 7 (sLq tP::sIq::sIq::ru2 35 (.s (.o (.lit .i64 0))::sUq::sPq 1::.s (.o .nil)::sPq 2::sPq 3::ru2 31 [])),[⟨0,1,true,some [[.c 4 (nL tP)]]⟩,⟨0,1,true,some [[.c 4 (nL tP)]]⟩,⟨0,0,true,some [[.o (.sl 4 0 (some 0) none)]]⟩,⟨0,0,true,some [[.o (.ptr 5 0 0 0)]]⟩,⟨136,4,true,none⟩,⟨182,0,true,none⟩],λa H=>(⟨aIq a 10⟩,⟨1,aLq tP a 9,aIq a 11,hLq tP H 0 0 0,hLq tP H 1 0 0,slN (slT (rwT (elT H 2) 0) 0),elT H 4,elT H 5⟩)⟩],A5,[(some 0,λp s=>upq (Ka8 p s) [(12,b (decide (s.o3<p.qa5)))]),(some 0,λp s=>upq (Ka9 p s) [(12,b (decide (s.o3<p.qa5)))])],Db6⟩
theorem Db7:ua0.OkM:=Lo.okM [ta9.prM] (by kernel_rfl) (.cons Db5 .nil) rfl (.cons (λa H=>by kernel_rfl) (.cons (λa H=>by kernel_rfl) .nil)) λp s=>(.sel (Nat.beq s.ph 1) (.of @C6 (λF _ _ _ _ _=>by unfold C6;(repeat' apply l5 (f:=F))<;>rfl) (by kernel_rfl)) (.of @C5 (λF _ _ _ _ _=>by unfold C5;(repeat' apply l5 (f:=F))<;>rfl) (by kernel_rfl)))
noncomputable def aa6(x:List Pln):Option (a7×List a8):=let t1:=(lp (A5 (⟨(↑(List.length x):Int)⟩:r9)) (⟨0,rt tP x,0,rt tP x,rt tP x,0,[],[]⟩:l7));(sl ((cnE tP x)&&((cnE tP x)&&((cnE tP x)&&true))) (sl (Nat.beq t1.1 1) (some (.v (.slice none 0 0),[])) (sl (Nat.beq t1.1 2) (some (.sl 0 0 t1.2.B1 0,[⟨136,4,t1.2.eh4,true,false,0⟩])) none)) none)
noncomputable def aa7(x:List Pln):List Pt:=Q5 (one (r1L tX)) (aa6 x)
noncomputable def aa8(x:List Pln):Bool:=okO (one (r1L tX)) (aa6 x)
noncomputable def Ca2:Sum:=ca7 (ba7 tP) (λx=>.guard (aa8 x) (.ret ((one (r1L tX)).enc (aa7 x),[])))
theorem Va6:e7 prog G 167 Ca2:=Ta0 (bd yf9 Hb0) (one (r1L tX)) (o:=aa6) λx=>ze0 (.s .p (.s .p (.s .p (.s (.s .p (.b (.i (.s .p (.b (.u ua0.lsM)))))) .p)))) [ua0.prM] (by kernel_rfl) (.cons Db7 .nil) (by kernel_rfl)
noncomputable def Qb2:List (Nat×Sum):=[]
theorem Bc7:g9 prog G Qb2:=trivial
structure ua1 where
 is0:Int
 ie2:List Int
 is8:Int
structure N9 where
 is9:Int
noncomputable def Bb0(p:ua1)(s:N9):St:=⟨i p.is0::ra 6 (eL tI p.ie2::i p.is8::i s.is9::ra 13 []),[]⟩
noncomputable def ja7{α:Type}(k:N9->α)(e:Nat->α)(z:α)(p:ua1)(s:N9):α:=(sl (decide (s.is9<p.is8)) (sl (inB s.is9 (List.length p.ie2)) (sl (decide ((gL tI p.ie2 s.is9.toNat)<(W (0-p.is0)))) (e 1) (sl (decide ((gL tI p.ie2 s.is9.toNat)>p.is0)) (e 1) (k ⟨W (s.is9+1)⟩))) z) (e 2))
noncomputable def oa8(p:ua1)(s:N9):Stp N9:=ja7 .next .exit .fail p s
noncomputable def bb5:Lo ua1 N9:=⟨En Qb2,0,Ve9,[1,0,1,4,4],[0,7,8,9],.p,[⟨sIq::ru2 6 (sLq tI::sIq::sIq::ru2 13 []),[],λa H=>(⟨aIq a 0,aLq tI a 7,aIq a 8⟩,⟨aIq a 9⟩)⟩],oa8,[(none,λp s=>⟨[b false],[]⟩),(some 0,λp s=>upq (Bb0 p s) [(10,b (decide (s.is9<p.is8)))])],Bb0⟩
theorem tc7:bb5.Ok:=Lo.ok [] (by kernel_rfl) .nil rfl (.cons (λa H=>by kernel_rfl) .nil) λp s=>(.of @ja7 (λF _ _ _ _ _=>by unfold ja7;(repeat' apply l5 (f:=F))<;>rfl) (by kernel_rfl))
noncomputable def Fa5(x:Int)(y:List Int):Option (a7×List a8):=let t1:=(lp (oa8 (⟨x,rt tI y,(↑(List.length y):Int)⟩:ua1)) (⟨0⟩:N9));(sl ((cnE tI y)&&true) (sl (Nat.beq t1.1 1) (some (b false,[])) (sl (Nat.beq t1.1 2) (some (b true,[])) none)) none)
noncomputable def Fa6(x:Int)(y:List Int):Bool:=Q5 (one r1B) (Fa5 x y)
noncomputable def Fa7(x:Int)(y:List Int):Bool:=okO (one r1B) (Fa5 x y)
noncomputable def Xb9:Sum:=ta3 cI (ba7 tI) (λx y=>.guard (Fa7 x y) (.ret ((one r1B).enc (Fa6 x y),[])))
theorem Jc6:e7 prog G 138 Xb9:=Gb0 (bd xf3 Bc7) (one r1B) (o:=Fa5) λx y=>Da7 (.s .p (.s (.s .p (.b (.u bb5.ls))) .p)) [bb5.pr] (by kernel_rfl) (.cons tc7 .nil) (by kernel_rfl)
noncomputable def tc8:List (Nat×Sum):=[]
theorem mc4:g9 prog G tc8:=trivial
noncomputable def Ja1(x:Int):Int:=(if (W (0-x))>x then (W (0-x)) else x)
noncomputable def Hb1:Sum:=ca7 cI (λx=>.ret ((one r1I).enc (Ja1 x),[]))
theorem tc9:e7 prog G 183 Hb1:=Kb5 (bd zf8 mc4) λx=>A7 (by kernel_rfl)
noncomputable def bb6:List (Nat×Sum):=[(183,Hb1)]
theorem uc0:g9 prog G bb6:=⟨tc9,trivial⟩
structure ea1 where
 ab2:List Int
 (is7 is8:Int)
structure P6 where
 (is3 is5:Int)
noncomputable def ub2(p:ea1)(s:P6):St:=⟨ra 3 (i s.is3::.unk::i s.is5::eL tI p.ab2::i p.is7::i p.is8::ra 15 []),[]⟩
noncomputable def fa8{α:Type}(k:P6->α)(e:Nat->α)(z:α)(p:ea1)(s:P6):α:=(sl (decide (s.is5>0)) (sl (s.is5==0) z (k ⟨s.is5,Int.tmod s.is3 s.is5⟩)) (e 1))
noncomputable def ba3(p:ea1)(s:P6):Stp P6:=fa8 .next .exit .fail p s
noncomputable def Va7:Lo ea1 P6:=⟨En bb6,0,ye8,[1,1,0,1,4,4,1,1,0,4,1,1,1,4,4],[3,5,6,7,8],.p,[⟨ru2 3 (sIq::sUq::sIq::sLq tI::sIq::sIq::ru2 15 []),[],λa H=>(⟨aLq tI a 6,aIq a 7,aIq a 8⟩,⟨aIq a 3,aIq a 5⟩)⟩],ba3,[(some 2,λp s=>upq (ub2 p s) [(16,i s.is5),(17,b (decide (s.is5>0)))])],ub2⟩
theorem mc5:Va7.Ok:=Lo.ok [] (by kernel_rfl) .nil rfl (.cons (λa H=>by kernel_rfl) .nil) λp s=>(.of @fa8 (λF _ _ _ _ _=>by unfold fa8;(repeat' apply l5 (f:=F))<;>rfl) (by kernel_rfl))
structure oa9 where
 is7:Int
structure L5 where
 is3:Int
 ab2:List Int
 is8:Int
noncomputable def ub3(p:oa9)(s:L5):St:=⟨ra 3 (i s.is3::.unk::.unk::eL tI s.ab2::i p.is7::i s.is8::ra 15 []),[]⟩
noncomputable def fa9{α:Type}(k:L5->α)(e:Nat->α)(z:α)(p:oa9)(s:L5):α:=let t1:=(Ja1 (gL tI s.ab2 s.is8.toNat));let t2:=(lp (ba3 (⟨rt tI s.ab2,p.is7,s.is8⟩:ea1)) (⟨s.is3,t1⟩:P6));(sl (decide (s.is8<p.is7)) (sl (inB s.is8 (List.length s.ab2)) (sl ((gL tI s.ab2 s.is8.toNat)==(-9223372036854775808)) (e 1) (sl ((cnE tI s.ab2)&&true) (sl (Nat.beq t2.1 1) (k ⟨t2.2.is3,rt tI s.ab2,W (s.is8+1)⟩) z) z)) z) (e 2))
noncomputable def ja8(p:oa9)(s:L5):Stp L5:=fa9 .next .exit .fail p s
noncomputable def Va8:Lo oa9 L5:=⟨En bb6,0,ye8,[1,1,0,1,4,4],[3,6,7,8],.s .p (.s .p (.s (.b (.s .p (.s .p (.s .p (.b (.u Va7.ls)))))) .p)),[⟨ru2 3 (sIq::sUq::sUq::sLq tI::sIq::sIq::ru2 15 []),[],λa H=>(⟨aIq a 7⟩,⟨aIq a 3,aLq tI a 6,aIq a 8⟩)⟩],ja8,[(none,λp s=>⟨[i 0],[]⟩),(some 0,λp s=>upq (ub3 p s) [(9,b (decide (s.is8<p.is7)))])],ub3⟩
theorem mc6:Va8.Ok:=Lo.ok [Va7.pr] (by kernel_rfl) (.cons mc5 .nil) rfl (.cons (λa H=>by kernel_rfl) .nil) λp s=>(.of @fa9 (λF _ _ _ _ _=>by unfold fa9;(repeat' apply l5 (f:=F))<;>rfl) (by kernel_rfl))
noncomputable def za0(x:List Int):Option (a7×List a8):=let t1:=(lp (ja8 (⟨(↑(List.length x):Int)⟩:oa9)) (⟨0,rt tI x,0⟩:L5));(sl ((cnE tI x)&&true) (sl (Nat.beq t1.1 1) (some (i 0,[])) (sl (Nat.beq t1.1 2) (some (i t1.2.is3,[])) none)) none)
noncomputable def Qa1(x:List Int):Int:=Q5 (one r1I) (za0 x)
noncomputable def Qa2(x:List Int):Bool:=okO (one r1I) (za0 x)
noncomputable def Qb3:Sum:=ca7 (ba7 tI) (λx=>.guard (Qa2 x) (.ret ((one r1I).enc (Qa1 x),[])))
theorem Bc8:e7 prog G 186 Qb3:=Ta0 (bd Af0 uc0) (one r1I) (o:=za0) λx=>Da7 (.s .p (.s .p (.s (.s .p (.b (.u Va8.ls))) .p))) [Va8.pr] (by kernel_rfl) (.cons mc6 .nil) (by kernel_rfl)
noncomputable def Vc5:List (Nat×Sum):=[(138,Xb9),(186,Qb3)]
theorem Jc7:g9 prog G Vc5:=⟨Jc6,Bc8,trivial⟩
noncomputable def Oa0(x:Pln):Option (a7×List a8):=let t1:=(Fa6 4608 [x.n.x,x.n.y,x.n.z]);let t2:=(Qa1 [x.n.x,x.n.y,x.n.z]);let t3:=(Fa6 2097152 [x.b]);(sl (Fa7 4608 [x.n.x,x.n.y,x.n.z]) (sl t1 (sl (Qa2 [x.n.x,x.n.y,x.n.z]) (sl (t2==1) (sl (Fa7 2097152 [x.b]) (some (b t3,[])) none) (some (b false,[]))) none) (some (b false,[]))) none)
noncomputable def eb0(x:Pln):Bool:=Q5 (one r1B) (Oa0 x)
noncomputable def eb1(x:Pln):Bool:=okO (one r1B) (Oa0 x)
noncomputable def ic6:Sum:=ca7 (oa3 tP) (λx=>.guard (eb1 x) (.ret ((one r1B).enc (eb0 x),[])))
theorem Vc6:e7 prog G 140 ic6:=Ta0 (bd xf4 Jc7) (one r1B) (o:=Oa0) λx=>A7 (by kernel_rfl)
noncomputable def Jc8:List (Nat×Sum):=[(140,ic6)]
theorem Bc9:g9 prog G Jc8:=⟨Vc6,trivial⟩
noncomputable def Fa8(x:Pln):Option (a7×List a8):=let t1:=(eb0 x);(sl (eb1 x) (some (b (!t1),[])) none)
noncomputable def Va9(x:Pln):Bool:=Q5 (one r1B) (Fa8 x)
noncomputable def Wa0(x:Pln):Bool:=okO (one r1B) (Fa8 x)
noncomputable def Yb0:Sum:=ca7 (oa3 tP) (λx=>.guard (Wa0 x) (.ret ((one r1B).enc (Va9 x),[])))
theorem Jc9:e7 prog G 149 Yb0:=Ta0 (bd xf7 Bc9) (one r1B) (o:=Fa8) λx=>A7 (by kernel_rfl)
structure Y7 where
 b9:List Pln
noncomputable def Fa9:List (Nat×Sum):=[(149,Yb0)]
theorem ob2:g9 prog G Fa9:=⟨Jc9,trivial⟩
structure L6 where
 b9:List Pln
 is7:Int
structure o7 where
 is8:Int
noncomputable def za1(p:L6)(s:o7):St:=⟨eL tP p.b9::.fn 149 []::ra 5 (i p.is7::i s.is8::ra 10 []),[]⟩
noncomputable def G8{α:Type}(k:o7->α)(e:Nat->α)(z:α)(p:L6)(s:o7):α:=let t1:=(Va9 (gL tP p.b9 s.is8.toNat));(sl (decide (s.is8<p.is7)) (sl (inB s.is8 (List.length p.b9)) (sl (Wa0 (gL tP p.b9 s.is8.toNat)) (sl t1 (e 1) (k ⟨W (s.is8+1)⟩)) z) z) (e 2))
noncomputable def J6(p:L6)(s:o7):Stp o7:=G8 .next .exit .fail p s
noncomputable def ga8:Lo L6 o7:=⟨En Fa9,0,Id3,[1,0,1,4,4],[0,1,7,8],.p,[⟨sLq tP::.s (.o (.fn 149))::ru2 5 (sIq::sIq::ru2 10 []),[],λa H=>(⟨aLq tP a 0,aIq a 7⟩,⟨aIq a 8⟩)⟩],J6,[(none,λp s=>⟨[i s.is8],[]⟩),(some 0,λp s=>upq (za1 p s) [(9,b (decide (s.is8<p.is7)))])],za1⟩
theorem kb8:ga8.Ok:=Lo.ok [] (by kernel_rfl) .nil rfl (.cons (λa H=>by kernel_rfl) .nil) λp s=>(.of @G8 (λF _ _ _ _ _=>by unfold G8;(repeat' apply l5 (f:=F))<;>rfl) (by kernel_rfl))
structure Y8 where
 alt:Nat
 is0:Int
noncomputable def I1{α:Type}(kk:Y8->α)(x:Y7):α:=let t1:=(lp (J6 (⟨rt tP x.b9,(↑(List.length x.b9):Int)⟩:L6)) (⟨0⟩:o7));(sl ((cnE tP x.b9)&&true) (sl (Nat.beq t1.1 1) (kk ⟨1,t1.2.is8⟩) (sl (Nat.beq t1.1 2) (kk ⟨1,-1⟩) (kk ⟨0,0⟩))) (kk ⟨0,0⟩))
noncomputable def ma6(x:Y7):Y8:=I1 (λr=>r) x
noncomputable def ja9(x:Y7)(r:Y8):DT (a7×List a8):=(.ite (Nat.beq r.alt 1) (.ret (i r.is0,[])) .fail)
theorem yb0{α β:Type}(F:α->β)(kk:Y8->α)(x:Y7):F (I1 kk x)=I1 (λr=>F (kk r)) x:=by unfold I1;(repeat' apply l5 (f:=F))<;>rfl
noncomputable def La0:Sum:=Ta1 ⟨[sLq tP,.s (.o (.fn 149))],[],λa H=>(⟨aLq tP a 0⟩,())⟩ (λx=>ja9 x (ma6 x))
theorem ub4:e7 prog G 139 La0:=L3 (enc:=λx=>⟨[eL tP x.b9,.fn 149 []],[]⟩) (λa H=>by kernel_rfl) (bd Ne3 ob2) λx=>Da7 (.s .p (.s (.s .p (.b (.u ga8.ls))) .p)) [ga8.pr] (by kernel_rfl) (.cons kb8 .nil) (Qha (b:=I1 (λr=>(ja9 x r).run) x) (by kernel_rfl) (yb0 (λr=>(ja9 x r).run) (λr=>r) x).symm)
structure R2 where
 b9:List Pln
noncomputable def hb5:List (Nat×Sum):=[(139,La0)]
theorem bb7:g9 prog G hb5:=⟨ub4,trivial⟩
structure R3 where
 alt:Nat
 bs0:Bool
noncomputable def D1{α:Type}(kk:R3->α)(x:R2):α:=let t1:=(ma6 ⟨rt tP x.b9⟩);(sl ((cnE tP x.b9)&&true) (sl (Nat.beq t1.alt 1) (kk ⟨1,decide (t1.is0>=0)⟩) (kk ⟨0,false⟩)) (kk ⟨0,false⟩))
noncomputable def ea9(x:R2):R3:=D1 (λr=>r) x
noncomputable def da0(x:R2)(r:R3):DT (a7×List a8):=(.ite (Nat.beq r.alt 1) (.ret (b r.bs0,[])) .fail)
theorem kb9{α β:Type}(F:α->β)(kk:R3->α)(x:R2):F (D1 kk x)=D1 (λr=>F (kk r)) x:=by unfold D1;(repeat' apply l5 (f:=F))<;>rfl
noncomputable def za2:Sum:=Ta1 ⟨[sLq tP,.s (.o (.fn 149))],[],λa H=>(⟨aLq tP a 0⟩,())⟩ (λx=>da0 x (ea9 x))
theorem hb6:e7 prog G 86 za2:=L3 (enc:=λx=>⟨[eL tP x.b9,.fn 149 []],[]⟩) (λa H=>by kernel_rfl) (bd b86 bb7) λx=>A7 (Qha (b:=D1 (λr=>(da0 x r).run) x) (by kernel_rfl) (kb9 (λr=>(da0 x r).run) (λr=>r) x).symm)
noncomputable def fd6:List (Nat×Sum):=[(86,za2)]
theorem Vc7:g9 prog G fd6:=⟨hb6,trivial⟩
noncomputable def Wa1(x:List Pln):Option (a7×List a8):=let t1:=(ea9 ⟨rt tP x⟩);(sl (decide ((↑(List.length x):Int)>48)) (some (i 2,[])) (sl ((cnE tP x)&&true) (sl (Nat.beq t1.alt 1) (sl t1.bs0 (some (i 12,[])) (some (i 0,[]))) none) none))
noncomputable def pa0(x:List Pln):Int:=Q5 (one r1I) (Wa1 x)
noncomputable def Ja2(x:List Pln):Bool:=okO (one r1I) (Wa1 x)
noncomputable def ob3:Sum:=ca7 (ba7 tP) (λx=>.guard (Ja2 x) (.ret ((one r1I).enc (pa0 x),[])))
theorem Db8:e7 prog G 97 ob3:=Ta0 (bd b97 Vc7) (one r1I) (o:=Wa1) λx=>A7 (by kernel_rfl)
noncomputable def Kc0:List (Nat×Sum):=[(97,ob3)]
theorem Cc0:g9 prog G Kc0:=⟨Db8,trivial⟩
noncomputable def Ga0(x:List Pln):Option (a7×List a8):=let t1:=(pa0 (rt tP x));(sl (okE tP x) (sl (Ja2 (rt tP x)) (some (b (t1 != 0),[])) none) none)
noncomputable def Wa2(x:List Pln):Bool:=Q5 (one r1B) (Ga0 x)
noncomputable def Wa3(x:List Pln):Bool:=okO (one r1B) (Ga0 x)
noncomputable def Yb1:Sum:=ca7 (ba7 tP) (λx=>.guard (Wa3 x) (.ret ((one r1B).enc (Wa2 x),[])))
theorem Kc1:e7 prog G 165 Yb1:=Ta0 (bd yf7 Cc0) (one r1B) (o:=Ga0) λx=>A7 (by kernel_rfl)
end Go.Ev.Ce
namespace Go.Proofs
open Go.Shelf
set_option maxRecDepth 100000 in
def Ce.growP_ren:Go.Shelf.Ren:=⟨fun | 4=>193 | n=>n,fun | 22=>24 | 25=>73 | 3=>3 | 4=>4 | 9=>9 | 20=>20 | 0=>0 | n=>n,fun | n=>n⟩
set_option maxRecDepth 100000 in
theorem Ce.growP:Go.Proofs.Lays8.n4 Tryz.prog Ce.growP_ren:={
 mixed:=by kernel_rfl
 f4:=⟨Tryz.f193.name,by decide,Tryz.func193.trans (congrArg some (by kernel_rfl))⟩
 t0:=Tryz.underlying0
 a0:=Tryz.isAgg0
 z0:=Tryz.sizeOf0
 v0:=Tryz.zeroValue0
 t3:=Tryz.underlying3
 a3:=Tryz.isAgg3
 z3:=Tryz.sizeOf3
 v3:=Tryz.zeroValue3
 t4:=Tryz.underlying4
 a4:=Tryz.isAgg4
 z4:=Tryz.sizeOf4
 v4:=Tryz.zeroValue4
 t9:=Tryz.underlying9
 a9:=Tryz.isAgg9
 z9:=Tryz.sizeOf9
 v9:=Tryz.zeroValue9
 t20:=Tryz.underlying20
 a20:=Tryz.isAgg20
 z20:=Tryz.sizeOf20
 v20:=Tryz.zeroValue20
 t22:=Tryz.underlying24
 a22:=Tryz.isAgg24
 z22:=Tryz.sizeOf24
 v22:=Tryz.zeroValue24 }
end Go.Proofs
namespace Go.Ev.Ce
open Go Go.Ev Go.Proofs
noncomputable def wd8:List a7:=[i 0,i 0,i 0,i 0]
noncomputable def Ma4:Sum:=λargs blks=>match args,blks with
 | [.v (.slice none 0 0), .v (.int .i64 n)], [] => .ite (n == 0) (.ret (.v (.slice none 0 0), []))
   (.guard (Bool.and (decide (0<n)) (Nat.ble (n.toNat*32) room)) (.ret (.sl 0 0 0 0,[⟨73,4,List.replicate n.toNat wd8,true,false,0⟩])))
 |_,_=>.fail
theorem z73:zeT Tryz.prog 73=some wd8:=by kernel_rfl
theorem s73:szT Tryz.prog 73=4:=by kernel_rfl
theorem y73:byT Tryz.prog 73=32:=by kernel_rfl
theorem t25:Ce.growP_ren.t 25=73:=by kernel_rfl
theorem f4:Ce.growP_ren.f 4=193:=by kernel_rfl
set_option maxRecDepth 100000 in
theorem Yb2:e7 prog G 193 Ma4:=by
 intro args blks r out he W ρ F w args' hH hlen hargs hG;refine⟨⟨_,Tryz.func193,by kernel_rfl,of_decide_eq_true (by kernel_rfl)⟩,?_⟩
 unfold Ma4 at he
 split at he
 case h_2=>cases he
 rename_i n
 match args',hlen with
 |[v0,v1],_ =>
 have e0:=ea0 (hargs 0 _ _ rfl rfl);have e1:=ea0 (hargs 1 _ _ rfl rfl);subst e0 e1
 rcases DT.run_ite_some he with⟨h0,he⟩|⟨h0,he⟩
 ·have h0:n=0:=by simpa using h0
  subst h0;injection he with he;injection he with q1 q2;subst q1 q2
  have:=Any8.slices_Grow_room Ce.growP none 0 0 0 w (Qhf _) (by omega) (by omega) (by omega)
  rw[f4] at this;refine this.mono λe w' ⟨h1,h2⟩=>?_
  subst h1 h2;exact⟨_,rfl,ρ,F,.refl,hH,.ofv _⟩
 ·obtain⟨hg,he⟩:=DT.run_guard_some he;rw[Bool.and_eq_true,decide_eq_true_eq] at hg;obtain⟨hpos,hroom⟩:=hg;have hroom:=Nat.le_of_ble_eq_true hroom;unfold room at hroom;obtain⟨m,rfl⟩:=Int.eq_ofNat_of_zero_le (Int.le_of_lt hpos);have hm:0<m:=by omega
  have he:some (a7.sl 0 0 0 0,[(⟨73,4,List.replicate m wd8,true,false,0⟩:a8)])=some (r,out):=he;injection he with he;injection he with q1 q2;subst q1 q2
  obtain⟨ti,zv,hi,hzz,hzr,hone⟩:=ab6 (E:=En []) z73;have hi:Tryz.prog.info? 73=some ti:=hi;have hts:ti.size=4:=by have:=s73;simp only[szT,hi] at this;exact this
  have hby:ti.bytes=32:=by have:=y73;simp only[byT,hi] at this;exact this
  have hzs:zv.cells.size=4:=by
   have:=congrArg List.length hzr
   simpa [wd8] using this.symm
  have hroom':m*32<=140737488355328:=hroom
  have:=Any8.slices_Grow_grow Ce.growP ti zv (by rw[t25];exact hi) hzz (by omega) none 0 0 m [] w (Qhf _) (by omega) (by rw[hby];omega) (by omega) (by simp) (λ_=>rfl) (λa ha=>by cases ha)
  rw[f4,t25] at this;refine this.mono λe w' ⟨h1,h2⟩=>?_
  have hcap:=grownCap_ge w (0+m) 0 73;have hcap2:=grownCap_le_maxLen w (0+m) 0 73 (by unfold maxLen;omega)
  subst h1;generalize grownCap w (0+m) 0 73=G' at *
  have hsz:∀q,(Builtin.zeroCells zv.cells q).size=q*4:=λq=>by simp[Builtin.zeroCells,hzs]
  have hcc:(#[]++Builtin.zeroCells zv.cells (0+m-0)++Builtin.zeroCells zv.cells (G'-(0+m))).size=G'*4:=by
   rw[Array.size_append,Array.size_append,hsz,hsz];simp;omega
  have hobj:w'.heap[w.heap.size]?=some (.cells (#[]++Builtin.zeroCells zv.cells (0+m-0)++Builtin.zeroCells zv.cells (G'-(0+m))) 73 (0,0)):=by
   rw[h2];exact World.alloc_heap_new w.drew _
  have hold:∀k,k<w.heap.size->w'.heap[k]?=w.heap[k]?:=λk hk=>by
   rw[h2];simp only[World.alloc,Array.getElem?_push,World.drew];rw[if_neg (by omega)]
  have hws:w'.heap.size=w.heap.size+1:=by rw[h2];exact Array.size_push ..
  obtain⟨h6,h7⟩:=hH.newAt (w':=w') (by rw[h2];rfl) (by rw[h2];rfl) (by rw[h2];rfl) (by rw[h2];exact Nat.le_succ _) (by omega) hold w.heap.size (Qhf _) 73 4 (List.replicate m wd8) _ 73 hobj
   (λj r hr=>by rw[Qhe] at hr;split at hr<;>cases hr;rfl) (by rw[List.length_replicate,hcc];omega)
   (λj r c x hr hx=>by
    have hjm:j<m:=by
     have:=(Qhc.1 hr).1
     simpa using this
    rw[Qhe,if_pos hjm] at hr;injection hr with hr;subst hr;have hc4:c<4:=(Qhc.1 hx).1;rw[hzr,List.getElem?_map] at hx;have hcz:c<zv.cells.size:=by omega
    have hq:zv.cells.toList[c]?=some zv.cells[c]:=by simp[hcz]
    rw[hq] at hx;injection hx with hx;subst hx;refine⟨zv.cells[c],?_,.v _ (hone _ (by simp))⟩
    have hlt:j*4+c<m*4:=by omega
    rw[Array.append_assoc,Array.empty_append,Array.getElem?_append_left (by rw[hsz];omega)]
    have hm4:(j*4+c) % 4=c:=by omega
    simp only[Builtin.zeroCells,hzs];rw[Array.getElem?_map,Array.getElem?_range];rw[if_pos (by omega)]
    simp[hm4,hcz])
   (λ_=>rfl)
  refine⟨_,rfl,_,F,h6,h7,.val (.cell ?_)⟩;refine .sl 0 0 0 0 _ _ { et:=73,es:=4,elems:=List.replicate m wd8,own:=true,dead:=false,g:=0 } rfl rfl (Qhf _) (Nat.zero_le _) rfl hcap2 λ_=>⟨.inr ?_,?_,by simp⟩
  ·simp[ρnew]
  ·simp only[ρnew,List.length_nil,if_true];rw[hcc,Nat.zero_add]
end Go.Ev.Ce
namespace Go.Ev.Ce
open Go Go.Ev Go.Ev.L Go.Proofs
set_option maxRecDepth 100000
noncomputable def wa4:List (Nat×Sum):=[(193,Ma4)]
theorem Hb2:g9 prog G wa4:=⟨Yb2,trivial⟩
structure T2 where
 (U2 xb6:List (List Pln))
 qa5:Int
structure s7 where
 (is3 o3:Int)
noncomputable def Oa1(p:T2)(s:s7):St:=⟨eL (tLs tP) p.U2::.unk::.unk::i s.is3::ra 5 (eL (tLs tP) p.xb6::i p.qa5::i s.o3::ra 24 []),[]⟩
noncomputable def P0{α:Type}(k:s7->α)(e:Nat->α)(z:α)(p:T2)(s:s7):α:=(sl (decide (s.o3<p.qa5)) (sl (inB s.o3 (List.length p.xb6)) (sl (decide ((W (s.is3+(↑(List.length (gL (tLs tP) p.xb6 s.o3.toNat)):Int)))<0)) z (k ⟨W (s.is3+(↑(List.length (gL (tLs tP) p.xb6 s.o3.toNat)):Int)),W (s.o3+1)⟩)) z) (e 1))
noncomputable def K5(p:T2)(s:s7):Stp s7:=P0 .next .exit .fail p s
noncomputable def ua2:Lo T2 s7:=⟨En wa4,0,ye6,[1,1,0,1,4,4],[0,3,9,10,11],.p,[⟨.s (.c 1 (nL (tLs tP)))::sUq::sUq::sIq::ru2 5 (.s (.c 1 (nL (tLs tP)))::sIq::sIq::ru2 24 []),[],λa H=>(⟨rL (tLs tP) (slT a 0),rL (tLs tP) (slT a 9),aIq a 10⟩,⟨aIq a 3,aIq a 11⟩)⟩],K5,[(some 0,λp s=>upq (Oa1 p s) [(12,b (decide (s.o3<p.qa5)))])],Oa1⟩
theorem Db9:ua2.OkM:=Lo.okM [] (by kernel_rfl) .nil rfl (.cons (λa H=>by kernel_rfl) .nil) λp s=>(.of @P0 (λF _ _ _ _ _=>by unfold P0;(repeat' apply l5 (f:=F))<;>rfl) (by kernel_rfl))
structure w8 where
 Da6:List (List Pln)
 jd5:Int
structure j8 where
 ph:Nat
 Ma8:Int
 ns6:Nat
 eh0:List (List a7)
noncomputable def La1(p:w8)(s:j8):St:=⟨ra 6 (.v (.slice none 0 0)::ra 18 (eL (tLs tP) p.Da6::i p.jd5::i s.Ma8::ra 8 [])),[]⟩
noncomputable def La2(p:w8)(s:j8):St:=⟨ra 6 (.sl 0 0 s.ns6 0::ra 18 (eL (tLs tP) p.Da6::i p.jd5::i s.Ma8::ra 8 [])),[⟨73,4,s.eh0,true,false,0⟩]⟩
noncomputable def Eb0(p:w8)(s:j8):St:=(sel (Nat.beq s.ph 1) (La2 p s) (La1 p s))
noncomputable def C7{α:Type}(k:j8->α)(e:Nat->α)(z:α)(p:w8)(s:j8):α:=(sl (decide (s.Ma8<p.jd5)) (sl (inB s.Ma8 (List.length p.Da6)) (sl (Nat.beq (len (n5 (λk=>(tP).row (gL tP (gL (tLs tP) p.Da6 s.Ma8.toNat) k)) (List.range (List.length (gL (tLs tP) p.Da6 s.Ma8.toNat))))) 0) (k ⟨0,W (s.Ma8+1),0,[]⟩) z) z) (e 1))
noncomputable def C8{α:Type}(k:j8->α)(e:Nat->α)(z:α)(p:w8)(s:j8):α:=(sl (decide (s.Ma8<p.jd5)) (sl (inB s.Ma8 (List.length p.Da6)) (sl (Nat.ble (s.ns6+(len (n5 (λk=>(tP).row (gL tP (gL (tLs tP) p.Da6 s.Ma8.toNat) k)) (List.range (List.length (gL (tLs tP) p.Da6 s.Ma8.toNat)))))) (len s.eh0)) (k ⟨1,W (s.Ma8+1),(s.ns6+(len (n5 (λk=>(tP).row (gL tP (gL (tLs tP) p.Da6 s.Ma8.toNat) k)) (List.range (List.length (gL (tLs tP) p.Da6 s.Ma8.toNat)))))),(app (M8 s.eh0 s.ns6) (app (n5 (λk=>(tP).row (gL tP (gL (tLs tP) p.Da6 s.Ma8.toNat) k)) (List.range (List.length (gL (tLs tP) p.Da6 s.Ma8.toNat)))) (e8 s.eh0 (s.ns6+(len (n5 (λk=>(tP).row (gL tP (gL (tLs tP) p.Da6 s.Ma8.toNat) k)) (List.range (List.length (gL (tLs tP) p.Da6 s.Ma8.toNat)))))))))⟩) z) z) (e 2))
noncomputable def E4(p:w8)(s:j8):Stp j8:=(sel (Nat.beq s.ph 1) (C8 .next .exit .fail p s) (C7 .next .exit .fail p s))
noncomputable def ua3:Lo w8 j8:=⟨En wa4,0,ye6,[1,1,1,1,0,1,4,4],[6,25,26,27],.p,[⟨ru2 6 (.s (.o .nil)::ru2 18 (.s (.c 1 (nL (tLs tP)))::sIq::sIq::ru2 8 [])),[],λa H=>(⟨rL (tLs tP) (slT a 25),aIq a 26⟩,⟨0,aIq a 27,0,[]⟩)⟩,⟨ru2 6 (.s (.o (.sl 0 0 (some 0) none))::ru2 18 (.s (.c 1 (nL (tLs tP)))::sIq::sIq::ru2 8 [])),[⟨73,4,true,none⟩],λa H=>(⟨rL (tLs tP) (slT a 25),aIq a 26⟩,⟨1,aIq a 27,slN (slT a 6),elT H 0⟩)⟩],E4,[(some 2,λp s=>upq (La1 p s) [(28,b (decide (s.Ma8<p.jd5)))]),(some 2,λp s=>upq (La2 p s) [(28,b (decide (s.Ma8<p.jd5)))])],Eb0⟩
theorem Eb1:ua3.OkM:=Lo.okM [] (by kernel_rfl) .nil rfl (.cons (λa H=>by kernel_rfl) (.cons (λa H=>by kernel_rfl) .nil)) λp s=>(.sel (Nat.beq s.ph 1) (.of @C8 (λF _ _ _ _ _=>by unfold C8;(repeat' apply l5 (f:=F))<;>rfl) (by kernel_rfl)) (.of @C7 (λF _ _ _ _ _=>by unfold C7;(repeat' apply l5 (f:=F))<;>rfl) (by kernel_rfl)))
structure ma2 where
 (alt ns0:Nat)
 eh0:List (List a7)
noncomputable def L0{α:Type}(kk:ma2->α)(x:List (List Pln)):α:=let t1:=(lp (K5 (⟨rt (tLs tP) x,rt (tLs tP) x,(↑(List.length x):Int)⟩:T2)) (⟨0,0⟩:s7));let t2:=(lp (E4 (⟨rt (tLs tP) (rt (tLs tP) x),(↑(List.length (rt (tLs tP) x)):Int)⟩:w8)) (⟨0,0,0,[]⟩:j8));let t3:=(lp (E4 (⟨rt (tLs tP) (rt (tLs tP) x),(↑(List.length (rt (tLs tP) x)):Int)⟩:w8)) (⟨1,0,0,List.replicate t1.2.is3.toNat wd8⟩:j8));(sl ((cnE (tLs tP) x)&&((cnE (tLs tP) x)&&true)) (sl (Nat.beq t1.1 1) (sl (t1.2.is3==0) (sl ((cnE (tLs tP) (rt (tLs tP) x))&&true) (sl (Nat.beq t2.1 1) (kk ⟨1,0,[]⟩) (sl (Nat.beq t2.1 2) (kk ⟨2,t2.2.ns6,t2.2.eh0⟩) (kk ⟨0,0,[]⟩))) (kk ⟨0,0,[]⟩)) (sl (Bool.and (decide (0<t1.2.is3)) (Nat.ble (t1.2.is3.toNat*32) room)) (sl ((cnE (tLs tP) (rt (tLs tP) x))&&true) (sl (Nat.beq t3.1 1) (kk ⟨1,0,[]⟩) (sl (Nat.beq t3.1 2) (kk ⟨2,t3.2.ns6,t3.2.eh0⟩) (kk ⟨0,0,[]⟩))) (kk ⟨0,0,[]⟩)) (kk ⟨0,0,[]⟩))) (kk ⟨0,0,[]⟩)) (kk ⟨0,0,[]⟩))
noncomputable def s9(x:List (List Pln)):ma2:=L0 (λr=>r) x
noncomputable def wa5(r:ma2):DT (a7×List a8):=(.ite (Nat.beq r.alt 1) (.ret (.v (.slice none 0 0),[])) (.ite (Nat.beq r.alt 2) (.ret (.sl 0 0 r.ns0 0,[⟨73,4,r.eh0,true,false,0⟩])) .fail))
theorem Rb6{α β:Type}(F:α->β)(kk:ma2->α)(x:List (List Pln)):F (L0 kk x)=L0 (λr=>F (kk r)) x:=by unfold L0;(repeat' apply l5 (f:=F))<;>rfl
noncomputable def Ca3:Sum:=ca7 (ba7 (tLs tP)) (λx=>wa5 (s9 x))
theorem Wa4:e7 prog G 166 Ca3:=Kb5 (bd yf8 Hb2) λx=>ze0 (.s .p (.s .p (.s (.s .p (.b (.u ua2.lsM))) (.s .p (.s (.s .p (.b (.u ua3.lsM))) .p))))) [ua2.prM,ua3.prM] (by kernel_rfl) (.cons Db9 (.cons Eb1 .nil)) (Qha (b:=L0 (λr=>(wa5 r).run) x) (by kernel_rfl) (Rb6 (λr=>(wa5 r).run) (λr=>r) x).symm)
noncomputable def Xd5:List (Nat×Sum):=[(166,Ca3)]
theorem Jd8:g9 prog G Xd5:=⟨Wa4,trivial⟩
noncomputable def Hb3(x:List (List Pln)):Option (a7×List a8):=let t1:=(s9 (rt (tLs tP) x));(sl (okE (tLs tP) x) (sl (Nat.beq t1.alt 1) (some (.sl 0 0 6 0,[⟨73,4,[[i 1,i 0,i 0,i 24],[i (-1),i 0,i 0,i 24],[i 0,i 1,i 0,i 24],[i 0,i (-1),i 0,i 24],[i 0,i 0,i 1,i 24],[i 0,i 0,i (-1),i 24]],true,false,0⟩])) (sl (Nat.beq t1.alt 2) (sl (Nat.beq t1.ns0 (len t1.eh0)&&Nat.ble ((t1.ns0+1)*32) room) (sl (Nat.beq (t1.ns0+1) (len (app t1.eh0 [[i 1,i 0,i 0,i 24]]))&&Nat.ble (((t1.ns0+1)+1)*32) room) (sl (Nat.beq ((t1.ns0+1)+1) (len (app (app t1.eh0 [[i 1,i 0,i 0,i 24]]) [[i (-1),i 0,i 0,i 24]]))&&Nat.ble ((((t1.ns0+1)+1)+1)*32) room) (sl (Nat.beq (((t1.ns0+1)+1)+1) (len (app (app (app t1.eh0 [[i 1,i 0,i 0,i 24]]) [[i (-1),i 0,i 0,i 24]]) [[i 0,i 1,i 0,i 24]]))&&Nat.ble (((((t1.ns0+1)+1)+1)+1)*32) room) (sl (Nat.beq ((((t1.ns0+1)+1)+1)+1) (len (app (app (app (app t1.eh0 [[i 1,i 0,i 0,i 24]]) [[i (-1),i 0,i 0,i 24]]) [[i 0,i 1,i 0,i 24]]) [[i 0,i (-1),i 0,i 24]]))&&Nat.ble ((((((t1.ns0+1)+1)+1)+1)+1)*32) room) (sl (Nat.beq (((((t1.ns0+1)+1)+1)+1)+1) (len (app (app (app (app (app t1.eh0 [[i 1,i 0,i 0,i 24]]) [[i (-1),i 0,i 0,i 24]]) [[i 0,i 1,i 0,i 24]]) [[i 0,i (-1),i 0,i 24]]) [[i 0,i 0,i 1,i 24]]))&&Nat.ble (((((((t1.ns0+1)+1)+1)+1)+1)+1)*32) room) (some (.sl 0 0 ((((((t1.ns0+1)+1)+1)+1)+1)+1) 0,[⟨73,4,app (app (app (app (app (app t1.eh0 [[i 1,i 0,i 0,i 24]]) [[i (-1),i 0,i 0,i 24]]) [[i 0,i 1,i 0,i 24]]) [[i 0,i (-1),i 0,i 24]]) [[i 0,i 0,i 1,i 24]]) [[i 0,i 0,i (-1),i 24]],true,false,0⟩])) none) none) none) none) none) none) none)) none)
noncomputable def bb8(x:List (List Pln)):List Pln:=Q5 (one (r1L tP)) (Hb3 x)
noncomputable def bb9(x:List (List Pln)):Bool:=okO (one (r1L tP)) (Hb3 x)
noncomputable def ec2:Sum:=ca7 (ba7 (tLs tP)) (λx=>.guard (bb9 x) (.ret ((one (r1L tP)).enc (bb8 x),[])))
theorem mc7:e7 prog G 110 ec2:=Ta0 (bd wf2 Jd8) (one (r1L tP)) (o:=Hb3) λx=>A7 (by kernel_rfl)
structure Y9 where
 U2:List (List Pln)
noncomputable def Ga1:List (Nat×Sum):=[(165,Yb1)]
theorem ob4:g9 prog G Ga1:=⟨Kc1,trivial⟩
structure L7 where
 U2:List (List Pln)
 is7:Int
structure o8 where
 is8:Int
noncomputable def za3(p:L7)(s:o8):St:=⟨eL (tLs tP) p.U2::.fn 165 []::ra 5 (i p.is7::i s.is8::ra 10 []),[]⟩
noncomputable def G9{α:Type}(k:o8->α)(e:Nat->α)(z:α)(p:L7)(s:o8):α:=let t1:=(Wa2 (rt tP (gL (tLs tP) p.U2 s.is8.toNat)));(sl (decide (s.is8<p.is7)) (sl (inB s.is8 (List.length p.U2)) (sl (okE tP (gL (tLs tP) p.U2 s.is8.toNat)) (sl (Wa3 (rt tP (gL (tLs tP) p.U2 s.is8.toNat))) (sl t1 (e 1) (k ⟨W (s.is8+1)⟩)) z) z) z) (e 2))
noncomputable def J7(p:L7)(s:o8):Stp o8:=G9 .next .exit .fail p s
noncomputable def ga9:Lo L7 o8:=⟨En Ga1,0,ye5,[1,0,1,4,4],[0,1,7,8],.p,[⟨.s (.c 1 (nL (tLs tP)))::.s (.o (.fn 165))::ru2 5 (sIq::sIq::ru2 10 []),[],λa H=>(⟨rL (tLs tP) (slT a 0),aIq a 7⟩,⟨aIq a 8⟩)⟩],J7,[(none,λp s=>⟨[i s.is8],[]⟩),(some 0,λp s=>upq (za3 p s) [(9,b (decide (s.is8<p.is7)))])],za3⟩
theorem lb0:ga9.Ok:=Lo.ok [] (by kernel_rfl) .nil rfl (.cons (λa H=>by kernel_rfl) .nil) λp s=>(.of @G9 (λF _ _ _ _ _=>by unfold G9;(repeat' apply l5 (f:=F))<;>rfl) (by kernel_rfl))
structure Z0 where
 alt:Nat
 is0:Int
noncomputable def I4{α:Type}(kk:Z0->α)(x:Y9):α:=let t1:=(lp (J7 (⟨rt (tLs tP) x.U2,(↑(List.length x.U2):Int)⟩:L7)) (⟨0⟩:o8));(sl ((cnE (tLs tP) x.U2)&&true) (sl (Nat.beq t1.1 1) (kk ⟨1,t1.2.is8⟩) (sl (Nat.beq t1.1 2) (kk ⟨1,-1⟩) (kk ⟨0,0⟩))) (kk ⟨0,0⟩))
noncomputable def ma7(x:Y9):Z0:=I4 (λr=>r) x
noncomputable def ka0(x:Y9)(r:Z0):DT (a7×List a8):=(.ite (Nat.beq r.alt 1) (.ret (i r.is0,[])) .fail)
theorem yb1{α β:Type}(F:α->β)(kk:Z0->α)(x:Y9):F (I4 kk x)=I4 (λr=>F (kk r)) x:=by unfold I4;(repeat' apply l5 (f:=F))<;>rfl
noncomputable def La3:Sum:=Ta1 ⟨[.s (.c 1 (nL (tLs tP))),.s (.o (.fn 165))],[],λa H=>(⟨rL (tLs tP) (slT a 0)⟩,())⟩ (λx=>ka0 x (ma7 x))
theorem ub5:e7 prog G 161 La3:=L3 (enc:=λx=>⟨[eL (tLs tP) x.U2,.fn 165 []],[]⟩) (λa H=>by kernel_rfl) (bd pf9 ob4) λx=>Da7 (.s .p (.s (.s .p (.b (.u ga9.ls))) .p)) [ga9.pr] (by kernel_rfl) (.cons lb0 .nil) (Qha (b:=I4 (λr=>(ka0 x r).run) x) (by kernel_rfl) (yb1 (λr=>(ka0 x r).run) (λr=>r) x).symm)
structure R4 where
 U2:List (List Pln)
noncomputable def hb7:List (Nat×Sum):=[(161,La3)]
theorem cb0:g9 prog G hb7:=⟨ub5,trivial⟩
structure R5 where
 alt:Nat
 bs0:Bool
noncomputable def D2{α:Type}(kk:R5->α)(x:R4):α:=let t1:=(ma7 ⟨rt (tLs tP) x.U2⟩);(sl ((cnE (tLs tP) x.U2)&&true) (sl (Nat.beq t1.alt 1) (kk ⟨1,decide (t1.is0>=0)⟩) (kk ⟨0,false⟩)) (kk ⟨0,false⟩))
noncomputable def fa0(x:R4):R5:=D2 (λr=>r) x
noncomputable def da1(x:R4)(r:R5):DT (a7×List a8):=(.ite (Nat.beq r.alt 1) (.ret (b r.bs0,[])) .fail)
theorem lb1{α β:Type}(F:α->β)(kk:R5->α)(x:R4):F (D2 kk x)=D2 (λr=>F (kk r)) x:=by unfold D2;(repeat' apply l5 (f:=F))<;>rfl
noncomputable def za4:Sum:=Ta1 ⟨[.s (.c 1 (nL (tLs tP))),.s (.o (.fn 165))],[],λa H=>(⟨rL (tLs tP) (slT a 0)⟩,())⟩ (λx=>da1 x (fa0 x))
theorem hb8:e7 prog G 103 za4:=L3 (enc:=λx=>⟨[eL (tLs tP) x.U2,.fn 165 []],[]⟩) (λa H=>by kernel_rfl) (bd pf1 cb0) λx=>A7 (Qha (b:=D2 (λr=>(da1 x r).run) x) (by kernel_rfl) (lb1 (λr=>(da1 x r).run) (λr=>r) x).symm)
noncomputable def fd7:List (Nat×Sum):=[(103,za4)]
theorem Vc8:g9 prog G fd7:=⟨hb8,trivial⟩
noncomputable def Wa5(x:List (List Pln)):Option (a7×List a8):=let t1:=(fa0 ⟨rt (tLs tP) x⟩);(sl ((cnE (tLs tP) x)&&true) (sl (Nat.beq t1.alt 1) (some (b (!t1.bs0),[])) none) none)
noncomputable def pa1(x:List (List Pln)):Bool:=Q5 (one r1B) (Wa5 x)
noncomputable def pa2(x:List (List Pln)):Bool:=okO (one r1B) (Wa5 x)
noncomputable def Wa6:Sum:=ca7 (ba7 (tLs tP)) (λx=>.guard (pa2 x) (.ret ((one r1B).enc (pa1 x),[])))
theorem eb2:e7 prog G 109 Wa6:=Ta0 (bd wf1 Vc8) (one r1B) (o:=Wa5) λx=>A7 (by kernel_rfl)
structure ha0 where
 (jb3 jb4 jb5 xb4 j9 i5 k8 i9:Int)
noncomputable def Hb4:List (Nat×Sum):=[(153,Ab9)]
theorem Eb2:g9 prog G Hb4:=⟨Mb3,trivial⟩
structure V8 where
 bs0:Bool
noncomputable def V9{α:Type}(kk:V8->α)(x:ha0):α:=let t1:=(va7 (⟨(⟨x.j9,x.i5,x.k8⟩:V3),x.i9⟩:Pln) (⟨x.jb3,x.jb4,x.jb5,x.xb4⟩:Pt));(kk ⟨decide (t1>0)⟩)
noncomputable def wa6(x:ha0):V8:=V9 (λr=>r) x
noncomputable def ua4(x:ha0)(r:V8):DT (a7×List a8):=.ret (b r.bs0,[⟨0,4,[[i x.j9,i x.i5,i x.k8,i x.i9]],true,false,0⟩])
theorem Mb9{α β:Type}(F:α->β)(kk:V8->α)(x:ha0):F (V9 kk x)=V9 (λr=>F (kk r)) x:=by unfold V9;(repeat' apply l5 (f:=F))<;>rfl
noncomputable def Wa7:Sum:=Ta1 ⟨[.agg (kLq 4),sPq 0],[⟨0,4,true,some [kLq 4]⟩],λa H=>(⟨cIq a 0 0,cIq a 0 1,cIq a 0 2,cIq a 0 3,hIq H 0 0 0,hIq H 0 0 1,hIq H 0 0 2,hIq H 0 0 3⟩,())⟩ (λx=>ua4 x (wa6 x))
theorem Hb5:e7 prog G 170 Wa7:=L3 (enc:=λx=>⟨[.agg [i x.jb3,i x.jb4,i x.jb5,i x.xb4],.ptr 0 0 0 0],[⟨0,4,[[i x.j9,i x.i5,i x.k8,i x.i9]],true,false,0⟩]⟩) (λa H=>by kernel_rfl) (bd zf2 Eb2) λx=>A7 (Qha (b:=V9 (λr=>(ua4 x r).run) x) (by kernel_rfl) (Mb9 (λr=>(ua4 x r).run) (λr=>r) x).symm)
structure ca0 where
 S5:List Pt
 (j9 i5 k8 i9:Int)
noncomputable def La4:List (Nat×Sum):=[(170,Wa7)]
theorem ub6:g9 prog G La4:=⟨Hb5,trivial⟩
structure N4 where
 S5:List Pt
 (is7 j9 i5 k8 i9:Int)
structure q8 where
 is8:Int
noncomputable def Da0(p:N4)(s:q8):St:=⟨eL tX p.S5::.fn 170 [.ptr 0 0 0 0]::ra 5 (i p.is7::i s.is8::ra 10 []),[⟨0,4,[[i p.j9,i p.i5,i p.k8,i p.i9]],true,false,0⟩]⟩
noncomputable def J8{α:Type}(k:q8->α)(e:Nat->α)(z:α)(p:N4)(s:q8):α:=let t1:=(wa6 ⟨(gL tX p.S5 s.is8.toNat).px,(gL tX p.S5 s.is8.toNat).py,(gL tX p.S5 s.is8.toNat).pz,(gL tX p.S5 s.is8.toNat).pw,p.j9,p.i5,p.k8,p.i9⟩);(sl (decide (s.is8<p.is7)) (sl (inB s.is8 (List.length p.S5)) (sl t1.bs0 (e 1) (k ⟨W (s.is8+1)⟩)) z) (e 2))
noncomputable def L8(p:N4)(s:q8):Stp q8:=J8 .next .exit .fail p s
noncomputable def ka1:Lo N4 q8:=⟨En La4,1,ye7,[1,0,1,4,4],[0,1,7,8],.p,[⟨sLq tX::.fn 170 [.o (.ptr 0 0 0 0)]::ru2 5 (sIq::sIq::ru2 10 []),[⟨0,4,true,some [kLq 4]⟩],λa H=>(⟨aLq tX a 0,aIq a 7,hIq H 0 0 0,hIq H 0 0 1,hIq H 0 0 2,hIq H 0 0 3⟩,⟨aIq a 8⟩)⟩],L8,[(none,λp s=>⟨[i s.is8],[⟨0,4,[[i p.j9,i p.i5,i p.k8,i p.i9]],true,false,0⟩]⟩),(some 0,λp s=>upq (Da0 p s) [(9,b (decide (s.is8<p.is7)))])],Da0⟩
theorem ob5:ka1.Ok:=Lo.ok [] (by kernel_rfl) .nil rfl (.cons (λa H=>by kernel_rfl) .nil) λp s=>(.of @J8 (λF _ _ _ _ _=>by unfold J8;(repeat' apply l5 (f:=F))<;>rfl) (by kernel_rfl))
structure ca1 where
 alt:Nat
 is0:Int
noncomputable def K6{α:Type}(kk:ca1->α)(x:ca0):α:=let t1:=(lp (L8 (⟨rt tX x.S5,(↑(List.length x.S5):Int),x.j9,x.i5,x.k8,x.i9⟩:N4)) (⟨0⟩:q8));(sl ((cnE tX x.S5)&&true) (sl (Nat.beq t1.1 1) (kk ⟨1,t1.2.is8⟩) (sl (Nat.beq t1.1 2) (kk ⟨1,-1⟩) (kk ⟨0,0⟩))) (kk ⟨0,0⟩))
noncomputable def ra1(x:ca0):ca1:=K6 (λr=>r) x
noncomputable def ma8(x:ca0)(r:ca1):DT (a7×List a8):=(.ite (Nat.beq r.alt 1) (.ret (i r.is0,[⟨0,4,[[i x.j9,i x.i5,i x.k8,i x.i9]],true,false,0⟩])) .fail)
theorem Eb3{α β:Type}(F:α->β)(kk:ca1->α)(x:ca0):F (K6 kk x)=K6 (λr=>F (kk r)) x:=by unfold K6;(repeat' apply l5 (f:=F))<;>rfl
noncomputable def Oa2:Sum:=Ta1 ⟨[sLq tX,.fn 170 [.o (.ptr 0 0 0 0)]],[⟨0,4,true,some [kLq 4]⟩],λa H=>(⟨aLq tX a 0,hIq H 0 0 0,hIq H 0 0 1,hIq H 0 0 2,hIq H 0 0 3⟩,())⟩ (λx=>ma8 x (ra1 x))
theorem yb2:e7 prog G 171 Oa2:=L3 (enc:=λx=>⟨[eL tX x.S5,.fn 170 [.ptr 0 0 0 0]],[⟨0,4,[[i x.j9,i x.i5,i x.k8,i x.i9]],true,false,0⟩]⟩) (λa H=>by kernel_rfl) (bd qf0 ub6) λx=>Da7 (.s .p (.s (.s .p (.b (.u ka1.ls))) .p)) [ka1.pr] (by kernel_rfl) (.cons ob5 .nil) (Qha (b:=K6 (λr=>(ma8 x r).run) x) (by kernel_rfl) (Eb3 (λr=>(ma8 x r).run) (λr=>r) x).symm)
structure T8 where
 S5:List Pt
 (j9 i5 k8 i9:Int)
noncomputable def lb2:List (Nat×Sum):=[(171,Oa2)]
theorem hb9:g9 prog G lb2:=⟨yb2,trivial⟩
structure T9 where
 alt:Nat
 bs0:Bool
noncomputable def E6{α:Type}(kk:T9->α)(x:T8):α:=let t1:=(ra1 ⟨rt tX x.S5,x.j9,x.i5,x.k8,x.i9⟩);(sl ((cnE tX x.S5)&&true) (sl (Nat.beq t1.alt 1) (kk ⟨1,decide (t1.is0>=0)⟩) (kk ⟨0,false⟩)) (kk ⟨0,false⟩))
noncomputable def ha1(x:T8):T9:=E6 (λr=>r) x
noncomputable def fa1(x:T8)(r:T9):DT (a7×List a8):=(.ite (Nat.beq r.alt 1) (.ret (b r.bs0,[⟨0,4,[[i x.j9,i x.i5,i x.k8,i x.i9]],true,false,0⟩])) .fail)
theorem ob6{α β:Type}(F:α->β)(kk:T9->α)(x:T8):F (E6 kk x)=E6 (λr=>F (kk r)) x:=by unfold E6;(repeat' apply l5 (f:=F))<;>rfl
noncomputable def Da1:Sum:=Ta1 ⟨[sLq tX,.fn 170 [.o (.ptr 0 0 0 0)]],[⟨0,4,true,some [kLq 4]⟩],λa H=>(⟨aLq tX a 0,hIq H 0 0 0,hIq H 0 0 1,hIq H 0 0 2,hIq H 0 0 3⟩,())⟩ (λx=>fa1 x (ha1 x))
theorem lb3:e7 prog G 112 Da1:=L3 (enc:=λx=>⟨[eL tX x.S5,.fn 170 [.ptr 0 0 0 0]],[⟨0,4,[[i x.j9,i x.i5,i x.k8,i x.i9]],true,false,0⟩]⟩) (λa H=>by kernel_rfl) (bd pf2 hb9) λx=>A7 (Qha (b:=E6 (λr=>(fa1 x r).run) x) (by kernel_rfl) (ob6 (λr=>(fa1 x r).run) (λr=>r) x).symm)
structure pa3 where
 (jb3 jb4 jb5 xb4:Int)
 d8:List Pt
noncomputable def Rb7:List (Nat×Sum):=[(112,Da1)]
theorem Nb0:g9 prog G Rb7:=⟨lb3,trivial⟩
structure da2 where
 alt:Nat
 bs0:Bool
noncomputable def T3{α:Type}(kk:da2->α)(x:pa3):α:=let t1:=(ha1 ⟨rt tX x.d8,x.jb3,x.jb4,x.jb5,x.xb4⟩);(sl ((cnE tX x.d8)&&true) (sl (Nat.beq t1.alt 1) (kk ⟨1,!t1.bs0⟩) (kk ⟨0,false⟩)) (kk ⟨0,false⟩))
noncomputable def pa4(x:pa3):da2:=T3 (λr=>r) x
noncomputable def Ca4(x:pa3)(r:da2):DT (a7×List a8):=(.ite (Nat.beq r.alt 1) (.ret (b r.bs0,[⟨0,1,[[eL tX x.d8]],true,false,0⟩])) .fail)
theorem Yb3{α β:Type}(F:α->β)(kk:da2->α)(x:pa3):F (T3 kk x)=T3 (λr=>F (kk r)) x:=by unfold T3;(repeat' apply l5 (f:=F))<;>rfl
noncomputable def ib0:Sum:=Ta1 ⟨[.agg (kLq 4),sPq 0],[⟨0,1,true,some [[.c 4 (nL tX)]]⟩],λa H=>(⟨cIq a 0 0,cIq a 0 1,cIq a 0 2,cIq a 0 3,hLq tX H 0 0 0⟩,())⟩ (λx=>Ca4 x (pa4 x))
theorem Rb8:e7 prog G 169 ib0:=L3 (enc:=λx=>⟨[.agg [i x.jb3,i x.jb4,i x.jb5,i x.xb4],.ptr 0 0 0 0],[⟨0,1,[[eL tX x.d8]],true,false,0⟩]⟩) (λa H=>by kernel_rfl) (bd zf1 Nb0) λx=>A7 (Qha (b:=T3 (λr=>(Ca4 x r).run) x) (by kernel_rfl) (Yb3 (λr=>(Ca4 x r).run) (λr=>r) x).symm)
structure Z1 where
 b9:List Pln
 d8:List Pt
noncomputable def Ga2:List (Nat×Sum):=[(169,ib0)]
theorem ob7:g9 prog G Ga2:=⟨Rb8,trivial⟩
structure L9 where
 b9:List Pln
 is7:Int
structure o9 where
 is8:Int
 d8:List Pt
noncomputable def za5(p:L9)(s:o9):St:=⟨eL tP p.b9::.fn 169 [.ptr 0 0 0 0]::ra 5 (i p.is7::i s.is8::ra 10 []),[⟨0,1,[[eL tX s.d8]],true,false,0⟩]⟩
noncomputable def H4{α:Type}(k:o9->α)(e:Nat->α)(z:α)(p:L9)(s:o9):α:=let t1:=(pa4 ⟨(gL tP p.b9 s.is8.toNat).n.x,(gL tP p.b9 s.is8.toNat).n.y,(gL tP p.b9 s.is8.toNat).n.z,(gL tP p.b9 s.is8.toNat).b,rt tX s.d8⟩);(sl (decide (s.is8<p.is7)) (sl (inB s.is8 (List.length p.b9)) (sl ((cnE tX s.d8)&&true) (sl (Nat.beq t1.alt 1) (sl t1.bs0 (e 1) (k ⟨W (s.is8+1),rt tX s.d8⟩)) z) z) z) (e 2))
noncomputable def J9(p:L9)(s:o9):Stp o9:=H4 .next .exit .fail p s
noncomputable def ha2:Lo L9 o9:=⟨En Ga2,1,Xe0,[1,0,1,4,4],[0,1,7,8],.p,[⟨sLq tP::.fn 169 [.o (.ptr 0 0 0 0)]::ru2 5 (sIq::sIq::ru2 10 []),[⟨0,1,true,some [[.c 4 (nL tX)]]⟩],λa H=>(⟨aLq tP a 0,aIq a 7⟩,⟨aIq a 8,hLq tX H 0 0 0⟩)⟩],J9,[(none,λp s=>⟨[i s.is8],[⟨0,1,[[eL tX (rt tX s.d8)]],true,false,0⟩]⟩),(some 0,λp s=>upq (za5 p s) [(9,b (decide (s.is8<p.is7)))])],za5⟩
theorem lb4:ha2.Ok:=Lo.ok [] (by kernel_rfl) .nil rfl (.cons (λa H=>by kernel_rfl) .nil) λp s=>(.of @H4 (λF _ _ _ _ _=>by unfold H4;(repeat' apply l5 (f:=F))<;>rfl) (by kernel_rfl))
structure Z2 where
 alt:Nat
 is0:Int
 d8:List Pt
noncomputable def I5{α:Type}(kk:Z2->α)(x:Z1):α:=let t1:=(lp (J9 (⟨rt tP x.b9,(↑(List.length x.b9):Int)⟩:L9)) (⟨0,rt tX x.d8⟩:o9));(sl ((cnE tP x.b9)&&((cnE tX x.d8)&&true)) (sl (Nat.beq t1.1 1) (kk ⟨1,t1.2.is8,rt tX t1.2.d8⟩) (sl (Nat.beq t1.1 2) (kk ⟨1,-1,t1.2.d8⟩) (kk ⟨0,0,[]⟩))) (kk ⟨0,0,[]⟩))
noncomputable def ma9(x:Z1):Z2:=I5 (λr=>r) x
noncomputable def ka2(x:Z1)(r:Z2):DT (a7×List a8):=(.ite (Nat.beq r.alt 1) (.ret (i r.is0,[⟨0,1,[[eL tX r.d8]],true,false,0⟩])) .fail)
theorem yb3{α β:Type}(F:α->β)(kk:Z2->α)(x:Z1):F (I5 kk x)=I5 (λr=>F (kk r)) x:=by unfold I5;(repeat' apply l5 (f:=F))<;>rfl
noncomputable def La5:Sum:=Ta1 ⟨[sLq tP,.fn 169 [.o (.ptr 0 0 0 0)]],[⟨0,1,true,some [[.c 4 (nL tX)]]⟩],λa H=>(⟨aLq tP a 0,hLq tX H 0 0 0⟩,())⟩ (λx=>ka2 x (ma9 x))
theorem ub7:e7 prog G 196 La5:=L3 (enc:=λx=>⟨[eL tP x.b9,.fn 169 [.ptr 0 0 0 0]],[⟨0,1,[[eL tX x.d8]],true,false,0⟩]⟩) (λa H=>by kernel_rfl) (bd Af4 ob7) λx=>Da7 (.s .p (.s (.s .p (.b (.u ha2.ls))) .p)) [ha2.pr] (by kernel_rfl) (.cons lb4 .nil) (Qha (b:=I5 (λr=>(ka2 x r).run) x) (by kernel_rfl) (yb3 (λr=>(ka2 x r).run) (λr=>r) x).symm)
structure R6 where
 b9:List Pln
 d8:List Pt
noncomputable def ib1:List (Nat×Sum):=[(196,La5)]
theorem cb1:g9 prog G ib1:=⟨ub7,trivial⟩
structure R7 where
 alt:Nat
 bs0:Bool
 d8:List Pt
noncomputable def D3{α:Type}(kk:R7->α)(x:R6):α:=let t1:=(ma9 ⟨rt tP x.b9,rt tX x.d8⟩);(sl ((cnE tP x.b9)&&((cnE tX x.d8)&&true)) (sl (Nat.beq t1.alt 1) (kk ⟨1,decide (t1.is0>=0),t1.d8⟩) (kk ⟨0,false,[]⟩)) (kk ⟨0,false,[]⟩))
noncomputable def fa2(x:R6):R7:=D3 (λr=>r) x
noncomputable def da3(x:R6)(r:R7):DT (a7×List a8):=(.ite (Nat.beq r.alt 1) (.ret (b r.bs0,[⟨0,1,[[eL tX r.d8]],true,false,0⟩])) .fail)
theorem lb5{α β:Type}(F:α->β)(kk:R7->α)(x:R6):F (D3 kk x)=D3 (λr=>F (kk r)) x:=by unfold D3;(repeat' apply l5 (f:=F))<;>rfl
noncomputable def za6:Sum:=Ta1 ⟨[sLq tP,.fn 169 [.o (.ptr 0 0 0 0)]],[⟨0,1,true,some [[.c 4 (nL tX)]]⟩],λa H=>(⟨aLq tP a 0,hLq tX H 0 0 0⟩,())⟩ (λx=>da3 x (fa2 x))
theorem ib2:e7 prog G 168 za6:=L3 (enc:=λx=>⟨[eL tP x.b9,.fn 169 [.ptr 0 0 0 0]],[⟨0,1,[[eL tX x.d8]],true,false,0⟩]⟩) (λa H=>by kernel_rfl) (bd zf0 cb1) λx=>A7 (Qha (b:=D3 (λr=>(da3 x r).run) x) (by kernel_rfl) (lb5 (λr=>(da3 x r).run) (λr=>r) x).symm)
noncomputable def fc6:List (Nat×Sum):=[(167,Ca2),(168,za6)]
theorem Yb4:g9 prog G fc6:=⟨Va6,ib2,trivial⟩
noncomputable def ka3(x:List Pln):Option (a7×List a8):=let t1:=(aa7 (rt tP x));let t2:=(fa2 ⟨rt tP x,rt tX t1⟩);(sl (okE tP x) (sl (aa8 (rt tP x)) (sl ((cnE tP x)&&((cnE tX t1)&&true)) (sl (Nat.beq t2.alt 1) (some (b (!t2.bs0),[])) none) none) none) none)
noncomputable def ka4(x:List Pln):Bool:=Q5 (one r1B) (ka3 x)
noncomputable def ka5(x:List Pln):Bool:=okO (one r1B) (ka3 x)
noncomputable def Ra7:Sum:=ca7 (ba7 tP) (λx=>.guard (ka5 x) (.ret ((one r1B).enc (ka4 x),[])))
theorem mb9:e7 prog G 111 Ra7:=Ta0 (bd wf3 Yb4) (one r1B) (o:=ka3) λx=>A7 (by kernel_rfl)
noncomputable def Vc9:List (Nat×Sum):=[(109,Wa6),(110,ec2),(167,Ca2)]
theorem Kc2:g9 prog G Vc9:=⟨eb2,mc7,Va6,trivial⟩
noncomputable def Oa3(x:List Pln):Option (a7×List a8):=let t1:=(pa1 [rt tP x]);let t2:=(bb8 [rt tP x]);let t3:=(aa7 (rt tP t2));(sl ((okE tP x)&&true) (sl (pa2 [rt tP x]) (sl (!t1) (some (.v (.slice none 0 0),[])) (sl ((okE tP x)&&true) (sl (bb9 [rt tP x]) (sl (okE tP t2) (sl (aa8 (rt tP t2)) (some (eL tX t3,[])) none) none) none) none)) none) none)
noncomputable def ja0(x:List Pln):List Pt:=Q5 (one (r1L tX)) (Oa3 x)
noncomputable def ja1(x:List Pln):Bool:=okO (one (r1L tX)) (Oa3 x)
noncomputable def Ba5:Sum:=ca7 (ba7 tP) (λx=>.guard (ja1 x) (.ret ((one (r1L tX)).enc (ja0 x),[])))
theorem Ga3:e7 prog G 113 Ba5:=Ta0 (bd wf4 Kc2) (one (r1L tX)) (o:=Oa3) λx=>A7 (by kernel_rfl)
noncomputable def wd9:List (Nat×Sum):=[(109,Wa6),(110,ec2),(111,Ra7)]
theorem fd8:g9 prog G wd9:=⟨eb2,mc7,mb9,trivial⟩
noncomputable def ib3(x:List Pln):Option (a7×List a8):=let t1:=(pa1 [rt tP x]);let t2:=(bb8 [rt tP x]);let t3:=(ka4 (rt tP t2));(sl ((okE tP x)&&true) (sl (pa2 [rt tP x]) (sl t1 (sl ((okE tP x)&&true) (sl (bb9 [rt tP x]) (sl (okE tP t2) (sl (ka5 (rt tP t2)) (some (b t3,[])) none) none) none) none) (some (b false,[]))) none) none)
noncomputable def ja2(x:List Pln):Bool:=Q5 (one r1B) (ib3 x)
noncomputable def ja3(x:List Pln):Bool:=okO (one r1B) (ib3 x)
noncomputable def va8:Sum:=ca7 (ba7 tP) (λx=>.guard (ja3 x) (.ret ((one r1B).enc (ja2 x),[])))
theorem wa7:e7 prog G 55 va8:=Ta0 (bd b55 fd8) (one r1B) (o:=ib3) λx=>A7 (by kernel_rfl)
noncomputable def fd9:List (Nat×Sum):=[]
theorem Wc0:g9 prog G fd9:=trivial
noncomputable def Wa8(x:Int)(y:Int):Option (a7×List a8):=(sl (y==0) none (sl (y==0) none (sl (decide ((Int.tmod x y)<0)) (some (i (W ((W (Int.tdiv x y))-1)),[])) (some (i (W (Int.tdiv x y)),[])))))
noncomputable def ha3(x:Int)(y:Int):Int:=Q5 (one r1I) (Wa8 x y)
noncomputable def ha4(x:Int)(y:Int):Bool:=okO (one r1I) (Wa8 x y)
noncomputable def uc1:Sum:=ta3 cI cI (λx y=>.guard (ha4 x y) (.ret ((one r1I).enc (ha3 x y),[])))
theorem gd0:e7 prog G 117 uc1:=Gb0 (bd wf8 Wc0) (one r1I) (o:=Wa8) λx y=>A7 (by kernel_rfl)
noncomputable def ic7:List (Nat×Sum):=[(55,va8),(116,Mb2),(113,Ba5),(117,uc1)]
theorem Wc1:g9 prog G ic7:=⟨wa7,ic2,Ga3,gd0,trivial⟩
structure Ga4 where
 da9:List Pt
 qa6:Int
structure da4 where
 (sa6 Da3 Da4 Da5 Oc8 Oc9 Pc0:Int)
noncomputable def Qb4(p:Ga4)(s:da4):St:=⟨.unk::.unk::.ptr 0 0 0 0::.ptr 1 0 0 0::.unk::.ptr 2 0 0 0::.ptr 3 0 0 0::ra 11 (eL tX p.da9::i p.qa6::i s.sa6::ra 62 []),[⟨0,3,[[i 0,i 0,i 0]],true,false,0⟩,⟨0,3,[[i 0,i 0,i 0]],true,false,0⟩,⟨0,3,[[i s.Da3,i s.Da4,i s.Da5]],true,false,0⟩,⟨0,3,[[i s.Oc8,i s.Oc9,i s.Pc0]],true,false,0⟩]⟩
noncomputable def ua5{α:Type}(k:da4->α)(e:Nat->α)(z:α)(p:Ga4)(s:da4):α:=let t1:=(ha3 (gL tX p.da9 s.sa6.toNat).px (gL tX p.da9 s.sa6.toNat).pw);let t2:=(ha3 (gL tX p.da9 s.sa6.toNat).py (gL tX p.da9 s.sa6.toNat).pw);let t3:=(ha3 (gL tX p.da9 s.sa6.toNat).pz (gL tX p.da9 s.sa6.toNat).pw);let t4:=(ha3 (W (0-(gL tX p.da9 s.sa6.toNat).px)) (gL tX p.da9 s.sa6.toNat).pw);let t5:=(ha3 (W (0-(gL tX p.da9 s.sa6.toNat).py)) (gL tX p.da9 s.sa6.toNat).pw);let t6:=(ha3 (W (0-(gL tX p.da9 s.sa6.toNat).pz)) (gL tX p.da9 s.sa6.toNat).pw);(sl (decide (s.sa6<p.qa6)) (sl (inB s.sa6 (List.length p.da9)) (sl (ha4 (gL tX p.da9 s.sa6.toNat).px (gL tX p.da9 s.sa6.toNat).pw) (sl (ha4 (gL tX p.da9 s.sa6.toNat).py (gL tX p.da9 s.sa6.toNat).pw) (sl (ha4 (gL tX p.da9 s.sa6.toNat).pz (gL tX p.da9 s.sa6.toNat).pw) (sl (ha4 (W (0-(gL tX p.da9 s.sa6.toNat).px)) (gL tX p.da9 s.sa6.toNat).pw) (sl (ha4 (W (0-(gL tX p.da9 s.sa6.toNat).py)) (gL tX p.da9 s.sa6.toNat).pw) (sl (ha4 (W (0-(gL tX p.da9 s.sa6.toNat).pz)) (gL tX p.da9 s.sa6.toNat).pw) (k ⟨W (s.sa6+1),(if t1<s.Da3 then t1 else s.Da3),(if t2<s.Da4 then t2 else s.Da4),(if t3<s.Da5 then t3 else s.Da5),(if (W (0-t4))>s.Oc8 then (W (0-t4)) else s.Oc8),(if (W (0-t5))>s.Oc9 then (W (0-t5)) else s.Oc9),(if (W (0-t6))>s.Pc0 then (W (0-t6)) else s.Pc0)⟩) z) z) z) z) z) z) z) (e 1))
noncomputable def na7(p:Ga4)(s:da4):Stp da4:=ua5 .next .exit .fail p s
noncomputable def ub8:Lo Ga4 da4:=⟨En ic7,0,lf4,[1,1,1,1,0,1,4,4],[2,3,5,6,18,19,20],.p,[⟨sUq::sUq::sPq 0::sPq 1::sUq::sPq 2::sPq 3::ru2 11 (sLq tX::sIq::sIq::ru2 62 []),[⟨0,3,true,some [[.o (.lit .i64 0),.o (.lit .i64 0),.o (.lit .i64 0)]]⟩,⟨0,3,true,some [[.o (.lit .i64 0),.o (.lit .i64 0),.o (.lit .i64 0)]]⟩,⟨0,3,true,some [kLq 3]⟩,⟨0,3,true,some [kLq 3]⟩],λa H=>(⟨aLq tX a 18,aIq a 19⟩,⟨aIq a 20,hIq H 2 0 0,hIq H 2 0 1,hIq H 2 0 2,hIq H 3 0 0,hIq H 3 0 1,hIq H 3 0 2⟩)⟩],na7,[(some 0,λp s=>upq (Qb4 p s) [(21,b (decide (s.sa6<p.qa6)))])],Qb4⟩
theorem Kc3:ub8.Ok:=Lo.ok [] (by kernel_rfl) .nil rfl (.cons (λa H=>by kernel_rfl) .nil) λp s=>(.of @ua5 (λF _ _ _ _ _=>by unfold ua5;(repeat' apply l5 (f:=F))<;>rfl) (by kernel_rfl))
noncomputable def Wa9(x:List Pln):Option (a7×List a8):=let t1:=(ja2 (rt tP x));let t2:=(V7 (⟨24,24,24⟩:V3) (-1));let t3:=(ja0 (rt tP x));let t4:=(lp (na7 (⟨rt tX t3,(↑(List.length t3):Int)⟩:Ga4)) (⟨0,24,24,24,t2.x,t2.y,t2.z⟩:da4));(sl (okE tP x) (sl (ja3 (rt tP x)) (sl (!t1) (some (.tup [.agg [i 0,i 0,i 0],.agg [i 0,i 0,i 0],b false],[])) (sl (okE tP x) (sl (ja1 (rt tP x)) (sl ((cnE tX t3)&&true) (sl (Nat.beq t4.1 1) (some (.tup [.agg [i t4.2.Da3,i t4.2.Da4,i t4.2.Da5],.agg [i t4.2.Oc8,i t4.2.Oc9,i t4.2.Pc0],b true],[])) none) none) none) none)) none) none)
noncomputable def Xa0(x:List Pln):V3×V3×Bool:=Q5 (Fd7 r1V r1V r1B) (Wa9 x)
noncomputable def Xa1(x:List Pln):Bool:=okO (Fd7 r1V r1V r1B) (Wa9 x)
noncomputable def Nb1:Sum:=ca7 (ba7 tP) (λx=>.guard (Xa1 x) (.ret ((Fd7 r1V r1V r1B).enc (Xa0 x),[])))
theorem ic8:e7 prog G 62 Nb1:=Ta0 (bd b62 Wc1) (Fd7 r1V r1V r1B) (o:=Wa9) λx=>Da7 (.s .p (.s .p (.s .p (.s .p (.s (.s .p (.b (.u ub8.ls))) .p))))) [ub8.pr] (by kernel_rfl) (.cons Kc3 .nil) (by kernel_rfl)
theorem ne8(P:Ja0)(g n:Int)(hn:n.natAbs<=9223372036854775808):lp (Na7 P) ⟨g,n⟩=(1,⟨eu g n,0⟩) :=
 ce7 (mk:=λg n=>(⟨g,n⟩:oa6)) (λg n h=>by simp[Na7,Fa2,sb4,h]) (λg=>by simp[Na7,Fa2,sb4]) g n hn
theorem ne9(l:List Int)(hl:l.length<=1000000000)(hb:∀x∈l,x.natAbs<=9223372036854775808):lp (Ba4 ⟨(l.length:Int)⟩) ⟨0,l,0⟩=(1,⟨l.foldl eu 0,l,l.length⟩):=by
 have := dc3 (step := Ba4 ⟨(l.length : Int)⟩) (mk := fun j a => (⟨a, l, (j : Int)⟩ : oa7)) (f := eu) (fin := 1) tI l (fun _ _ => True) hl (fun j a hj _ => ⟨by
   simp only[Ba4,Fa3,Int.toNat_natCast,i8,n9,ne8 _ _ _ (hb _ (ga4 tI hj)),r8 hj (by omega)]
   rw[bt (Vb8 hj),bt (d9 hj)]
   rfl,trivial⟩) (λa _=>by simp[Ba4,Fa3,sb4]) 0 (Nat.zero_le _) 0 trivial
 simpa using this.1
theorem uc2:∀(l:List Int) (g:Int),(l.foldl eu g).natAbs=l.foldl (λa x=>Nat.gcd a x.natAbs) g.natAbs
 |[],_=>rfl
 |x::l,g=>by rw[List.foldl_cons,uc2 l,List.foldl_cons,ve0];rfl
theorem df2(l:List Int)(hl:l.length<=1000000000)(hb:∀x∈l,x.natAbs<=9223372036854775807)(h0:(l.foldl eu 0).natAbs<=9223372036854775807):ub0 l=some (i ((l.foldl eu 0).natAbs:Int),[]):=by
 unfold ub0;simp only[i8,n9,ne9 l hl (λx hx=>Nat.le_succ_of_le (hb x hx))]
 generalize l.foldl eu 0=e at *
 have:W (0-e)=-e:=by rw[qa9 (by omega) (by omega)];omega
 rw[this];show some (i (if -e>e then -e else e),[])=_
 congr 3
 split<;>omega
theorem nd5(x y:Int)(hx:0<=x)(hy:0<=y)(hb:y<=9223372036854775807):Ua8 x y=some (i (Int.gcd x y:Int),[]):=by
 unfold Ua8
 have:=ce7 (step:=ya3 ⟨⟩) (mk:=λg n=>(⟨g,n⟩:ca8)) (λg n h=>by simp[ya3,ta5,sb4,h]) (λg=>by simp[ya3,ta5,sb4]) x y (by omega)
 simp only[this,ve1 hx hy];rfl
theorem Wc2(x y:Int)(hx:0<=x)(hy:0<=y)(hb:y<=9223372036854775807):U7 x y=(Int.gcd x y:Int):=by unfold U7;rw[nd5 x y hx hy hb];rfl
theorem Wc3(x y:Int)(hx:0<=x)(hy:0<=y)(hb:y<=9223372036854775807):U8 x y=true:=by unfold U8;rw[nd5 x y hx hy hb];rfl
noncomputable def rm(p:Pln)(x:Pt):Int:=W (p.b*x.pw-(p.n.x*x.px+p.n.y*x.py+p.n.z*x.pz))
theorem xd0(p:Pln)(x:Pt):va7 p x=rm p x:=by
 unfold va7 Sa5 rm;simp only[Kb7,lc6,ud4,ud5]
theorem Nc6(p:Pln)(x:Pt):Ra5 p x=rm p x:=by
 unfold Ra5 rm;simp only[Kb7,lc6,ud4,ud5];congr 1;omega
structure Bd(p:Pln):Prop where
 x1:-4608<=p.n.x
 x2:p.n.x<=4608
 y1:-4608<=p.n.y
 y2:p.n.y<=4608
 z1:-4608<=p.n.z
 z2:p.n.z<=4608
 b1:-2097152<=p.b
 b2:p.b<=2097152
def mv(p q r:Pln):V3 :=
 ⟨(k9 q.n r.n).x*p.b+(k9 r.n p.n).x*q.b+(k9 p.n q.n).x*r.b,
  (k9 q.n r.n).y*p.b+(k9 r.n p.n).y*q.b+(k9 p.n q.n).y*r.b,
  (k9 q.n r.n).z*p.b+(k9 r.n p.n).z*q.b+(k9 p.n q.n).z*r.b⟩
def gc(v:V3)(w:Int):Int:=(Nat.gcd (Nat.gcd v.x.natAbs v.y.natAbs) (Nat.gcd v.z.natAbs w.natAbs):Nat)
def mpt(p q r:Pln):Pt×Bool :=
 if mw p q r=0 then (⟨0,0,0,0⟩,false)
 else if mw p q r<0 then (⟨Int.tdiv (-(mv p q r).x) (gc (mv p q r) (mw p q r)),Int.tdiv (-(mv p q r).y) (gc (mv p q r) (mw p q r)),Int.tdiv (-(mv p q r).z) (gc (mv p q r) (mw p q r)),Int.tdiv (-(mw p q r)) (gc (mv p q r) (mw p q r))⟩,true)
 else (⟨Int.tdiv (mv p q r).x (gc (mv p q r) (mw p q r)),Int.tdiv (mv p q r).y (gc (mv p q r) (mw p q r)),Int.tdiv (mv p q r).z (gc (mv p q r) (mw p q r)),Int.tdiv (mw p q r) (gc (mv p q r) (mw p q r))⟩,true)
def Sm(n:Int)(x:Int):Prop:=-n<=x/\x<=n
theorem uc3{a b:V3}(ha:Sm 4608 a.x/\Sm 4608 a.y/\Sm 4608 a.z)(hb:Sm 4608 b.x/\Sm 4608 b.y/\Sm 4608 b.z):Sm 42467328 (k9 a b).x/\Sm 42467328 (k9 a b).y/\Sm 42467328 (k9 a b).z:=by
 obtain⟨⟨a1,a2⟩,⟨a3,a4⟩,a5,a6⟩:=ha;obtain⟨⟨b1,b2⟩,⟨b3,b4⟩,b5,b6⟩:=hb;have h1:=mb a3 a4 b5 b6;have h2:=mb a5 a6 b3 b4;have h3:=mb a5 a6 b1 b2;have h4:=mb a1 a2 b5 b6;have h5:=mb a1 a2 b3 b4;have h6:=mb a3 a4 b1 b2;unfold Sm k9
 simp only
 omega
theorem Bd.n{p:Pln}(h:Bd p):Sm 4608 p.n.x/\Sm 4608 p.n.y/\Sm 4608 p.n.z:=⟨⟨h.x1,h.x2⟩,⟨h.y1,h.y2⟩,h.z1,h.z2⟩
theorem ze1{p q r:Pln}(hp:Bd p)(hq:Bd q)(hr:Bd r):Sm 600000000000 (mw p q r):=by
 obtain⟨⟨c1,c2⟩,⟨c3,c4⟩,c5,c6⟩:=uc3 hq.n hr.n;have h1:=mb hp.x1 hp.x2 c1 c2;have h2:=mb hp.y1 hp.y2 c3 c4;have h3:=mb hp.z1 hp.z2 c5 c6;unfold Sm mw dot;omega
theorem ze2{p q r:Pln}(hp:Bd p)(hq:Bd q)(hr:Bd r):Sm 300000000000000 (mv p q r).x/\Sm 300000000000000 (mv p q r).y/\Sm 300000000000000 (mv p q r).z:=by
 obtain⟨⟨c1,c2⟩,⟨c3,c4⟩,c5,c6⟩:=uc3 hq.n hr.n;obtain⟨⟨d1,d2⟩,⟨d3,d4⟩,d5,d6⟩:=uc3 hr.n hp.n;obtain⟨⟨e1,e2⟩,⟨e3,e4⟩,e5,e6⟩:=uc3 hp.n hq.n;have a1:=mb c1 c2 hp.b1 hp.b2;have a2:=mb c3 c4 hp.b1 hp.b2;have a3:=mb c5 c6 hp.b1 hp.b2;have b1:=mb d1 d2 hq.b1 hq.b2;have b2:=mb d3 d4 hq.b1 hq.b2;have b3:=mb d5 d6 hq.b1 hq.b2;have f1:=mb e1 e2 hr.b1 hr.b2;have f2:=mb e3 e4 hr.b1 hr.b2;have f3:=mb e5 e6 hr.b1 hr.b2;unfold Sm mv
 simp only
 omega
theorem Nc7(a b:V3):U3 a b=⟨W (k9 a b).x,W (k9 a b).y,W (k9 a b).z⟩:=by
 unfold U3 k9;simp only[ud4,ud5]
theorem uc4(a b:V3):X8 a b=⟨W (k9 a b).x,W (k9 a b).y,W (k9 a b).z⟩:=by
 unfold X8 k9;simp only[ud4,ud5]
theorem df3(p q r:Pln):dot r.n (k9 p.n q.n)=mw p q r:=by unfold mw dot k9;grind
theorem Bf5(a b c d:Nat):[a,b,c,d].foldl Nat.gcd 0=Nat.gcd (Nat.gcd a b) (Nat.gcd c d):=by
 simp only[List.foldl_cons,List.foldl_nil,Nat.gcd_zero_left];rw[Nat.gcd_assoc]
theorem Wc4{v:V3}{w:Int}(h:w≠0):0<gc v w:=by
 unfold gc
 have:0<Nat.gcd v.z.natAbs w.natAbs:=Qhb _ (by omega)
 have:=Qhb (Nat.gcd v.x.natAbs v.y.natAbs) this
 omega
theorem ze3{v:V3}{w:Int}(h:w≠0):gc v w<=w.natAbs:=by
 unfold gc;have h1:Nat.gcd v.z.natAbs w.natAbs<=w.natAbs:=Qhd _ (by omega)
 have h2:0<Nat.gcd v.z.natAbs w.natAbs:=Qhb _ (by omega)
 have h3:=Qhd (m:=Nat.gcd v.x.natAbs v.y.natAbs) (n:=Nat.gcd v.z.natAbs w.natAbs) h2;omega
theorem Ga5{x:Int}(h:Sm 1000000000000000000 x):W x=x:=qa9 (by have:=h.1;omega) (by have:=h.2;omega)
theorem Sm.mono{n m x:Int}(h:Sm n x)(hn:n<=m):Sm m x:=⟨by have:=h.1;omega,by have:=h.2;omega⟩
theorem M9{n x g:Int}(h:Sm n x)(hg:0<g):Sm n (Int.tdiv x g):=by
 have h1:(Int.tdiv x g).natAbs<=x.natAbs:=by rw[Int.natAbs_tdiv];exact Nat.div_le_self _ _
 have:=h.1;have:=h.2
 constructor<;>omega
theorem Xd6{p q r:Pln}(hp:Bd p)(hq:Bd q)(hr:Bd r)(h:(mpt p q r).2=true):0<(mpt p q r).1.pw/\Sm 300000000000000 (mpt p q r).1.px/\Sm 300000000000000 (mpt p q r).1.py/\Sm 300000000000000 (mpt p q r).1.pz/\(mpt p q r).1.pw<=600000000000:=by
 have hw:=ze1 hp hq hr;obtain⟨v1,v2,v3⟩:=ze2 hp hq hr;have neg:∀{n x:Int},Sm n x->Sm n (-x):=λh=>⟨by have:=h.2;omega,by have:=h.1;omega⟩
 have pos:∀{x:Int},0<x->x.natAbs=(mw p q r).natAbs->0<Int.tdiv x (gc (mv p q r) (mw p q r)):=λ{x} hx he=>by
  have h0:mw p q r≠0:=by omega
  have h1:=Wc4 (v:=mv p q r) h0;have h2:=ze3 (v:=mv p q r) h0;rw[Int.tdiv_eq_ediv_of_nonneg (by omega)]
  exact Int.ediv_pos_of_pos_of_dvd hx (by omega) (by
   rw[<- Int.dvd_natAbs,he];exact Int.natCast_dvd_natCast.2 (Nat.dvd_trans (Nat.gcd_dvd_right _ _) (Nat.gcd_dvd_right _ _)))
 unfold mpt at h ⊢;by_cases h0:mw p q r=0
 ·rw[if_pos h0] at h;cases h
 ·rw[if_neg h0];have hg:=Wc4 (v:=mv p q r) h0;by_cases h1:mw p q r<0
  ·rw[if_pos h1];exact⟨pos (by omega) (by omega),M9 (neg v1) hg,M9 (neg v2) hg,M9 (neg v3) hg,(M9 (neg hw) hg).2⟩
  ·rw[if_neg h1];exact⟨pos (by omega) rfl,M9 v1 hg,M9 v2 hg,M9 v3 hg,(M9 hw hg).2⟩
theorem de5{p q r:Pln}(hp:Bd p)(hq:Bd q)(hr:Bd r):gb5 ⟨p,q,r⟩=some (.tup [.agg (tX.row (mpt p q r).1),b (mpt p q r).2],[]):=by
 have hw:=ze1 hp hq hr;obtain⟨v1,v2,v3⟩:=ze2 hp hq hr;have e1:Sa5 r.n (U3 p.n q.n)=mw p q r:=by
  rw[Nc7];unfold Sa5;simp only[Kb7,lc6,ue8];show W (dot r.n (k9 p.n q.n))=_;rw[df3,Ga5 (hw.mono (by omega))]
 have e2:va6 (va6 (va6 ⟨0,0,0⟩ (V7 (U3 q.n r.n) p.b)) (V7 (U3 r.n p.n) q.b)) (V7 (U3 p.n q.n) r.b)=mv p q r:=by
  rw[Nc7,Nc7,Nc7];unfold va6 V7;simp only[Kb7,lc6,Vd4,Int.zero_add];show (⟨W (mv p q r).x,W (mv p q r).y,W (mv p q r).z⟩:V3)=_;rw[Ga5 (v1.mono (by omega)),Ga5 (v2.mono (by omega)),Ga5 (v3.mono (by omega))]
 unfold gb5;simp only[e1,e2];have hb:∀x∈[(mv p q r).x,(mv p q r).y,(mv p q r).z,mw p q r],x.natAbs<=9223372036854775807:=by
  intro x hx;simp only[List.mem_cons,List.not_mem_nil,or_false] at hx;unfold Sm at *
  rcases hx with rfl|rfl|rfl|rfl<;>omega
 have hf:([(mv p q r).x,(mv p q r).y,(mv p q r).z,mw p q r].foldl eu 0).natAbs=Nat.gcd (Nat.gcd (mv p q r).x.natAbs (mv p q r).y.natAbs) (Nat.gcd (mv p q r).z.natAbs (mw p q r).natAbs):=by
  rw[uc2,<- Bf5];rfl
 unfold mpt;by_cases h0:mw p q r=0
 ·rw[bt (by rw[h0];rfl),if_pos h0]
  rfl
 ·have hz:(mw p q r==0)=false:=by simpa using h0
  rw[bf hz,if_neg h0];have hgp:=Wc4 (v:=mv p q r) h0;have hgl:=ze3 (v:=mv p q r) h0;have hge:=df2 _ (by simp) hb (by rw[hf];unfold gc at hgl;unfold Sm at hw;omega)
  have hgv:Mb6 [(mv p q r).x,(mv p q r).y,(mv p q r).z,mw p q r]=gc (mv p q r) (mw p q r):=by
   unfold Mb6;rw[hge,hf];rfl
  have hgg:Mb7 [(mv p q r).x,(mv p q r).y,(mv p q r).z,mw p q r]=true:=by
   unfold Mb7;rw[hge];rfl
  rw[hgv,bt hgg];generalize hG:gc (mv p q r) (mw p q r)=G at *
  have hGW:W (0-G)=-G:=by unfold Sm at hw;rw[qa9 (by omega) (by omega)];omega
  have hGn:(-G==0)=false:=by simp;omega
  have hGp:(G==0)=false:=by simp;omega
  by_cases h1:mw p q r<0
  ·rw[bt (decide_eq_true h1),if_pos h1];simp only[hGW];rw[bf hGn,bf hGn,bf hGn,bf hGn];simp only[Int.tdiv_neg,<- Int.neg_tdiv];have neg:∀{n x:Int},Sm n x->Sm n (-x):=λh=>⟨by have:=h.2;omega,by have:=h.1;omega⟩
   rw[Ga5 ((M9 (neg v1) hgp).mono (by omega)),Ga5 ((M9 (neg v2) hgp).mono (by omega)),Ga5 ((M9 (neg v3) hgp).mono (by omega)),Ga5 ((M9 (neg hw) hgp).mono (by omega))]
   rfl
  ·rw[bf (decide_eq_false h1),if_neg h1,bf hGp,bf hGp,bf hGp,bf hGp];rw[Ga5 ((M9 v1 hgp).mono (by omega)),Ga5 ((M9 v2 hgp).mono (by omega)),Ga5 ((M9 v3 hgp).mono (by omega)),Ga5 ((M9 hw hgp).mono (by omega))]
   rfl
theorem df4{p q r:Pln}(hp:Bd p)(hq:Bd q)(hr:Bd r):gb6 ⟨p,q,r⟩=mpt p q r:=by unfold gb6;rw[de5 hp hq hr];rfl
theorem df5{p q r:Pln}(hp:Bd p)(hq:Bd q)(hr:Bd r):gb7 ⟨p,q,r⟩=true:=by unfold gb7;rw[de5 hp hq hr];rfl
theorem Jd9{p q r:Pln}(hp:Bd p)(hq:Bd q)(hr:Bd r):tb2 p q r=some (.tup [.agg (tX.row (mpt p q r).1),b (mpt p q r).2],[]):=by
 have hw:=ze1 hp hq hr;obtain⟨v1,v2,v3⟩:=ze2 hp hq hr;have e1:Sa2 p.n (X8 q.n r.n)=mw p q r:=by
  rw[uc4];unfold Sa2;simp only[Kb7,lc6,ue8];show W (dot p.n (k9 q.n r.n))=_;rw[show dot p.n (k9 q.n r.n)=mw p q r from rfl,Ga5 (hw.mono (by omega))]
 have e2:qb8 (qb8 (U6 (X8 q.n r.n) p.b) (U6 (X8 r.n p.n) q.b)) (U6 (X8 p.n q.n) r.b)=mv p q r:=by
  rw[uc4,uc4,uc4];unfold qb8 U6;simp only[Kb7,lc6,Vd4];show (⟨W (mv p q r).x,W (mv p q r).y,W (mv p q r).z⟩:V3)=_;rw[Ga5 (v1.mono (by omega)),Ga5 (v2.mono (by omega)),Ga5 (v3.mono (by omega))]
 have neg:∀{n x:Int},Sm n x->Sm n (-x):=λh=>⟨by have:=h.2;omega,by have:=h.1;omega⟩
 have e3:U6 (mv p q r) (-1)=⟨-(mv p q r).x,-(mv p q r).y,-(mv p q r).z⟩:=by
  unfold U6
  have:∀x:Int,x*-1=-x:=λx=>by omega
  simp only[this];rw[Ga5 ((neg v1).mono (by omega)),Ga5 ((neg v2).mono (by omega)),Ga5 ((neg v3).mono (by omega))]
 have ab:∀{x:Int},Sm 300000000000000 x->(if W (0-x)>x then W (0-x) else x)=(x.natAbs:Int):=λ{x} h=>by
  have:W (0-x)=-x:=by rw[show 0-x=-x by omega];exact Ga5 ((neg h).mono (by omega))
  rw[this]
  split<;>omega
 unfold tb2;simp only[e1,e2,e3];rw[ab v1,ab v2,ab v3,ab (neg v1),ab (neg v2),ab (neg v3)];simp only[Int.natAbs_neg];unfold mpt;by_cases h0:mw p q r=0
 ·rw[bt (by rw[h0];rfl),if_pos h0]
  rfl
 ·have hz:(mw p q r==0)=false:=by simpa using h0
  rw[bf hz,if_neg h0];have hgp:=Wc4 (v:=mv p q r) h0;have hgl:=ze3 (v:=mv p q r) h0;have hw0:=hw;unfold Sm at hw0;have q1:((mv p q r).y.natAbs:Int)<=9223372036854775807:=by unfold Sm at v2;omega
  have k1:=Wc2 ((mv p q r).x.natAbs:Int) ((mv p q r).y.natAbs:Int) (by omega) (by omega) q1
  have k2:=Wc3 ((mv p q r).x.natAbs:Int) ((mv p q r).y.natAbs:Int) (by omega) (by omega) q1
  have c1:Int.gcd ((mv p q r).x.natAbs:Int) ((mv p q r).y.natAbs:Int)=Nat.gcd (mv p q r).x.natAbs (mv p q r).y.natAbs:=by simp[Int.gcd]
  have fin : ∀ w : Int, 0 < w → w.natAbs = (mw p q r).natAbs → U7 ((mv p q r).z.natAbs : Int) w = (Nat.gcd (mv p q r).z.natAbs (mw p q r).natAbs : Nat) ∧ U8 ((mv p q r).z.natAbs : Int) w = true ∧
    U7 (Nat.gcd (mv p q r).x.natAbs (mv p q r).y.natAbs:Nat) (Nat.gcd (mv p q r).z.natAbs (mw p q r).natAbs:Nat)=gc (mv p q r) (mw p q r)/\U8 (Nat.gcd (mv p q r).x.natAbs (mv p q r).y.natAbs:Nat) (Nat.gcd (mv p q r).z.natAbs (mw p q r).natAbs:Nat)=true:=by
   intro w hw1 hw2;have l1:Nat.gcd (mv p q r).z.natAbs (mw p q r).natAbs<=(mw p q r).natAbs:=Qhd _ (by omega)
   refine⟨?_,Wc3 _ _ (by omega) (by omega) (by omega),?_,Wc3 _ _ (by omega) (by omega) (by omega)⟩
   ·rw[Wc2 _ _ (by omega) (by omega) (by omega)]
    have:Int.gcd ((mv p q r).z.natAbs:Int) w=Nat.gcd (mv p q r).z.natAbs (mw p q r).natAbs:=by unfold Int.gcd;rw[hw2];simp
    rw[this]
   ·rw[Wc2 _ _ (by omega) (by omega) (by omega)]
    rfl
  by_cases h1:mw p q r<0
  ·rw[bt (decide_eq_true h1),if_pos h1];have hWw:W (0-mw p q r)=-mw p q r:=by rw[qa9 (by omega) (by omega)];omega
   rw[hWw];obtain⟨f1,f2,f3,f4⟩:=fin (-mw p q r) (by omega) (by omega)
   simp only[k1,k2,c1,f1,f2,f3,f4];generalize gc (mv p q r) (mw p q r)=G at *
   have hGp:(G==0)=false:=by simp;omega
   simp only[hGp];rw[Ga5 ((M9 (neg v1) hgp).mono (by omega)),Ga5 ((M9 (neg v2) hgp).mono (by omega)),Ga5 ((M9 (neg v3) hgp).mono (by omega)),Ga5 ((M9 (neg hw) hgp).mono (by omega))]
   rfl
  ·rw[bf (decide_eq_false h1),if_neg h1];obtain⟨f1,f2,f3,f4⟩:=fin (mw p q r) (by omega) rfl
   simp only[k1,k2,c1,f1,f2,f3,f4];generalize gc (mv p q r) (mw p q r)=G at *
   have hGp:(G==0)=false:=by simp;omega
   simp only[hGp];rw[Ga5 ((M9 v1 hgp).mono (by omega)),Ga5 ((M9 v2 hgp).mono (by omega)),Ga5 ((M9 v3 hgp).mono (by omega)),Ga5 ((M9 hw hgp).mono (by omega))]
   rfl
theorem Ne4{p q r:Pln}(hp:Bd p)(hq:Bd q)(hr:Bd r):tb3 p q r=mpt p q r:=by unfold tb3;rw[Jd9 hp hq hr];rfl
theorem Ne5{p q r:Pln}(hp:Bd p)(hq:Bd q)(hr:Bd r):tb4 p q r=true:=by unfold tb4;rw[Jd9 hp hq hr];rfl
end Go.Ev.Ce
