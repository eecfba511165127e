/- Own work. -/
import Derived.Test.YtgphembaimondaaGreatDoorChecked
import Derived.Test.YtgphembaimondaaGreatDoorEvOjCePf
import Derived.KernelRfl
set_option linter.all false
noncomputable section
def Qha:=@List.drop_eq_getElem_cons
def Qhb:=@List.length_mergeSort
def Qhc:=@Bool.false_eq_true
namespace Go.Ev.Ce
open Go Go.Ev Go.Proofs
set_option maxRecDepth 1000000
theorem mx:(Tryz.prog).follows .mixedOrders=true:=Checked.mixed Tryz.checked
abbrev Bdq(n:Nat)(pf:PFn):Prop:=dc3 Tryz.prog n λE=>i7 E pf
theorem bdq{f:FuncId}{fn:Func}(hf:(Tryz.prog).funcs[f]?=some fn)(hn:decide (fn.name ≠ "runtime.NumGoroutine")=true:=by kernel_rfl)(hc:Option.isSome (Xa1 Tryz.prog fn)=true:=by kernel_rfl):Bdq f (got (Xa1 Tryz.prog fn)):=je3 mx hf hn (sb8 hc)
theorem b3:Bdq 3 pf3:=bdq Tryz.func3
theorem b4:Bdq 4 pf4:=bdq Tryz.func4
theorem b5:Bdq 5 pf5:=bdq Tryz.func5
theorem b6:Bdq 6 pf6:=bdq Tryz.func6
theorem b8:Bdq 8 pf8:=bdq Tryz.func8
theorem b10:Bdq 10 Td5:=bdq Tryz.func10
theorem b11:Bdq 11 Td6:=bdq Tryz.func11
theorem b17:Bdq 17 Td7:=bdq Tryz.func17
theorem b18:Bdq 18 Td8:=bdq Tryz.func18
theorem b19:Bdq 19 Td9:=bdq Tryz.func19
theorem b20:Bdq 20 Ud0:=bdq Tryz.func20
theorem b21:Bdq 21 Ud1:=bdq Tryz.func21
theorem b22:Bdq 22 Ud2:=bdq Tryz.func22
theorem b33:Bdq 33 Ud3:=bdq Tryz.func33
theorem b34:Bdq 34 Ud4:=bdq Tryz.func34
theorem b35:dc3 Tryz.prog 35 λE=>ha7 E Ud5:=oc1 (h:=h35) mx Tryz.func35 (by kernel_rfl) Tryz.func142 (by kernel_rfl) (sb8 (by kernel_rfl))
theorem b36:Bdq 36 Ud6:=bdq Tryz.func36
theorem b37:Bdq 37 Ud7:=bdq Tryz.func37
theorem b38:Bdq 38 Ud8:=bdq Tryz.func38
theorem b39:Bdq 39 Ud9:=bdq Tryz.func39
theorem b40:Bdq 40 Vd0:=bdq Tryz.func40
theorem b41:Bdq 41 Vd1:=bdq Tryz.func41
theorem b42:Bdq 42 Vd2:=bdq Tryz.func42
theorem b43:Bdq 43 Vd3:=bdq Tryz.func43
theorem b44:Bdq 44 Vd4:=bdq Tryz.func44
theorem b45:Bdq 45 Vd5:=bdq Tryz.func45
theorem b46:Bdq 46 Vd6:=bdq Tryz.func46
theorem b47:Bdq 47 Vd7:=bdq Tryz.func47
theorem b48:Bdq 48 Vd8:=bdq Tryz.func48
theorem b61:Bdq 61 Vd9:=bdq Tryz.func61
theorem b62:Bdq 62 Wd0:=bdq Tryz.func62
theorem b63:Bdq 63 Wd1:=bdq Tryz.func63
theorem b64:Bdq 64 Wd2:=bdq Tryz.func64
theorem b65:Bdq 65 Wd3:=bdq Tryz.func65
theorem b66:Bdq 66 Wd4:=bdq Tryz.func66
theorem b67:Bdq 67 Wd5:=bdq Tryz.func67
theorem b68:Bdq 68 Wd6:=bdq Tryz.func68
theorem b69:Bdq 69 je4:=bdq Tryz.func69
theorem b70:dc3 Tryz.prog 70 λE=>ha7 E nd8:=oc1 (h:=h70) mx Tryz.func70 (by kernel_rfl) Tryz.func142 (by kernel_rfl) (sb8 (by kernel_rfl))
theorem b71:Bdq 71 Wd7:=bdq Tryz.func71
theorem b72:Bdq 72 Wd8:=bdq Tryz.func72
theorem b73:Bdq 73 Wd9:=bdq Tryz.func73
theorem b74:Bdq 74 Xd0:=bdq Tryz.func74
theorem b75:Bdq 75 Xd1:=bdq Tryz.func75
theorem b76:Bdq 76 Xd2:=bdq Tryz.func76
theorem b77:Bdq 77 Xd3:=bdq Tryz.func77
theorem b78:Bdq 78 Xd4:=bdq Tryz.func78
theorem b79:dc3 Tryz.prog 79 λE=>ha7 E Xd5:=oc1 (h:=h79) mx Tryz.func79 (by kernel_rfl) Tryz.func142 (by kernel_rfl) (sb8 (by kernel_rfl))
theorem b90:Bdq 90 Xd6:=bdq Tryz.func90
theorem b91:Bdq 91 Hd9:=bdq Tryz.func91
theorem b92:Bdq 92 Xd7:=bdq Tryz.func92
theorem b94:Bdq 94 Xd8:=bdq Tryz.func94
theorem b95:Bdq 95 Xd9:=bdq Tryz.func95
theorem b96:Bdq 96 Yd0:=bdq Tryz.func96
theorem b97:Bdq 97 Yd1:=bdq Tryz.func97
theorem b98:Bdq 98 Yd2:=bdq Tryz.func98
theorem b99:Bdq 99 Yd3:=bdq Tryz.func99
theorem je5:Bdq 100 xd5:=bdq Tryz.func100
theorem nd9:Bdq 101 xd6:=bdq Tryz.func101
theorem je6:Bdq 102 xd7:=bdq Tryz.func102
theorem je7:Bdq 103 xd8:=bdq Tryz.func103
theorem je8:Bdq 104 Yd4:=bdq Tryz.func104
theorem je9:Bdq 105 xd9:=bdq Tryz.func105
theorem ke0:Bdq 106 yd0:=bdq Tryz.func106
theorem ke1:Bdq 107 yd1:=bdq Tryz.func107
theorem ke2:Bdq 108 Xc7:=bdq Tryz.func108
theorem ke3:Bdq 109 yd2:=bdq Tryz.func109
theorem Zd8:Bdq 110 Yd5:=bdq Tryz.func110
theorem ke4:Bdq 111 yd3:=bdq Tryz.func111
theorem ke5:Bdq 112 Yd6:=bdq Tryz.func112
theorem ke6:Bdq 114 Yd7:=bdq Tryz.func114
theorem Zd9:Bdq 115 yd4:=bdq Tryz.func115
theorem ke7:Bdq 116 yd5:=bdq Tryz.func116
theorem ae0:Bdq 122 Dc8:=bdq Tryz.func122
theorem ke8:Bdq 130 yd6:=bdq Tryz.func130
theorem Yc0:Bdq 131 Wb3:=bdq Tryz.func131
theorem ke9:Bdq 132 yd7:=bdq Tryz.func132
theorem le0:Bdq 133 Yd8:=bdq Tryz.func133
theorem le1:dc3 Tryz.prog 134 λE=>ha7 E Dc9:=oc1 (h:=Td3) mx Tryz.func134 (by kernel_rfl) Tryz.func142 (by kernel_rfl) (sb8 (by kernel_rfl))
theorem ae1:Bdq 135 yd8:=bdq Tryz.func135
theorem le2:Bdq 136 yd9:=bdq Tryz.func136
theorem le3:Bdq 137 Yd9:=bdq Tryz.func137
theorem le4:Bdq 138 Zd0:=bdq Tryz.func138
theorem le5:Bdq 140 Zd1:=bdq Tryz.func140
theorem le6:Bdq 141 Xc8:=bdq Tryz.func141
theorem le7:Bdq 143 Zd2:=bdq Tryz.func143
theorem le8:Bdq 144 Zd3:=bdq Tryz.func144
theorem le9:Bdq 145 Zd4:=bdq Tryz.func145
theorem me0:dc3 Tryz.prog 148 λE=>ha7 E zd0:=oc1 (h:=Td4) mx Tryz.func148 (by kernel_rfl) Tryz.func218 (by kernel_rfl) (sb8 (by kernel_rfl))
theorem me1:Bdq 155 Zd5:=bdq Tryz.func155
theorem ae2:Bdq 156 Xc9:=bdq Tryz.func156
theorem me2:Bdq 158 zd1:=bdq Tryz.func158
theorem me3:Bdq 159 Zd6:=bdq Tryz.func159
theorem ae3:Bdq 160 zd2:=bdq Tryz.func160
theorem me4:Bdq 182 Zd7:=bdq Tryz.func182
theorem me5:Bdq 214 zd3:=bdq Tryz.func214
theorem me6:Bdq 216 zd4:=bdq Tryz.func216
theorem me7:Bdq 217 zd5:=bdq Tryz.func217
theorem me8:Bdq 219 zd6:=bdq Tryz.func219
theorem me9:Bdq 220 zd7:=bdq Tryz.func220
theorem ne0:Bdq 222 zd8:=bdq Tryz.func222
theorem ne2:Bdq 223 zd9:=bdq Tryz.func223
theorem ne3:Bdq 224 Ad0:=bdq Tryz.func224
theorem ne4:Bdq 225 Ad1:=bdq Tryz.func225
end Go.Ev.Ce
namespace Go.Ev.L
open Go Go.Ev
def Pa0:RT->PC->PS2
 |.s a b,.seq x y=>.seq (Pa0 a x) (Pa0 b y)
 |.c a b,.cond g x y=>.cond g (Pa0 a x) (Pa0 b y)
 |.b a,.block id x=>.block id (Pa0 a x)
 |.i a,.inner f x n c=>.inner f x n (Pa0 a c)
 |.u S,_=>.sum S
 |_,c=>.pc c
theorem dc4{E:Env}{k:Nat}(rt:RT)(c:PC):V2 (λx=>∀s,E8 (x.1 s) (p7 E k x.2 s)) (Ia3 rt c)->N9 E k (Pa0 rt c) c:=by
 induction rt generalizing c with
 |p=>intro h;cases c<;>exact .pc _
 |s a b iha ihb =>
  intro h;cases c with
  |seq x y=>exact .seq (iha x (V2.app h).1) (ihb y (V2.app h).2)
  |_=>exact .pc _
 |c a b iha ihb =>
  intro h;cases c with
  |cond g x y=>exact .cond g (iha x (V2.app h).1) (ihb y (V2.app h).2)
  |_=>exact .pc _
 |b a iha =>
  intro h;cases c with
  |block id x=>exact .block id (iha x h)
  |_=>exact .pc _
 |l a iha=>intro h;cases c<;>exact .pc _
 |i a iha =>
  intro h;cases c with
  |inner f x n c=>exact .inner f x n (iha c h)
  |_=>exact .pc _
 |u S =>
  intro h
  have:Ia3 (.u S) c=[(S,c)]:=by cases c<;>rfl
  rw[this] at h;cases h with
  |cons h t =>
   have e:Pa0 (.u S) c=.sum S:=by cases c<;>rfl
   rw[e];exact .sum h
section
variable{π σ:Type}{E:Env}{k:Nat}{keep:List Nat}{alts:List (Al2 π σ)}{enc:π->σ->St}{step:π->σ->Stp σ}{xs:Xs π σ}{body:PS2}{c:PC}
theorem Ta6.belowM(hb:N9 E k body c)(hN:E.N=rounds+1)(w:Ta6 oc0 k keep (sb7 E k body) alts step xs enc)(s:St):E8 (Ub8 oc0 k keep alts step xs s) (p7 E k (.loopM keep c) s):=λr hr=>by
 obtain⟨t,h1,h2⟩:=w.go hr;rw[xc5,hN];exact Ma2 hb.le _ _ _ (Ya3 h1 h2)
theorem Ta6.belowML(hb:N9 E k body c)(hN:E.N=rounds+1)(w:Ta6 Ta0 k keep (sb7 E k body) alts step xs enc)(s:St):E8 (Ub8 Ta0 k keep alts step xs s) (p7 E k (.loop keep c) s):=λr hr=>by
 obtain⟨t,h1,h2⟩:=w.go hr;rw[Ub6,hN];exact Ma2 hb.le _ _ _ (Ya3 h1 h2)
end
end Go.Ev.L
namespace Go.Ev.Ab
open Go Go.Ev
@[reducible] noncomputable def o(d:Nat)(x:PO):PI:=⟨some d,none,[],x⟩
@[reducible] noncomputable def s(x:PO):PI:=⟨none,none,[],x⟩
@[reducible] noncomputable def ci(n:Int):Arg:=.c (.v (.int .i64 n))
@[reducible] noncomputable def cb(b:Bool):Arg:=.c (.v (.bool b))
@[reducible] noncomputable def vi(n:Int):a7:=.v (.int .i64 n)
@[reducible] noncomputable def rep{α:Type}(n:Nat)(x:α):List α:=List.replicate n x
@[reducible] noncomputable def ki(n:Nat):List CK:=List.replicate n (.int .i64)
@[reducible] noncomputable def mv(d n:Nat):PI:=o d (.mv (.t n))
@[reducible] noncomputable def mc(d:Nat)(n:Int):PI:=o d (.mv (ci n))
@[reducible] noncomputable def mb(d:Nat)(x:Bool):PI:=o d (.mv (cb x))
@[reducible] noncomputable def fd(d k n:Nat):PI:=o d (.fld k (.t n))
@[reducible] noncomputable def ex(d x k:Nat):PI:=o d (.ext (.t x) k)
@[reducible] noncomputable def so(l:List PI)(x:PC):PC:=.seq (.ops l) x
@[reducible] noncomputable def sq(x y:PC):PC:=.seq x y
@[reducible] noncomputable def ts(l:List Nat):List Arg:=l.map .t
@[reducible] noncomputable def cl(f:Nat)(l:List Nat):PO:=.call f (ts l)
@[reducible] noncomputable def pa(d c x:Nat):PI:=o d (.pick (.t c) (.t x) (cb false))
@[reducible] noncomputable def po(d c x:Nat):PI:=o d (.pick (.t c) (cb true) (.t x))
@[reducible] noncomputable def al(d k:Nat)(n:Int):PI:=o d (.alloc (rep k (vi n)))
@[reducible] noncomputable def ap(d et es n x y:Nat):PI:=o d (.append et es n (.t x) (.t y))
end Go.Ev.Ab
namespace Go.Ev.L
open Go Go.Ev
def Cps{π σ:Type}(u:∀{α:Type},(σ->α)->(Nat->α)->α->π->σ->α):Prop :=
 ∀{α β:Type} (F:α->β) (k:σ->α) (e:Nat->α) (z:α) (p:π) (s:σ),F (u k e z p s)=u (λx=>F (k x)) (λt=>F (e t)) (F z) p s
@[reducible] noncomputable def foL{π σ:Type}(en:π->σ->St)(xs:Xs π σ)(p:π)(s:σ):Stp σ->Option (c7×St):=Ta1 (λs'=>some (.normal,en p s')) (λt=>xOf xs p s t 1) none
structure Lo(π σ:Type) where
 E:Env
 k:Nat
 F:PFn
 at':List Nat
 kp:List Nat
 rt:RT
 al:List (Al2 π σ)
 st:π->σ->Stp σ
 xs:Xs π σ
 en:π->σ->St
namespace Lo
variable{π σ:Type}(L:Lo π σ)
def lc:PC:=je1 L.at' L.F.body
def ls:St->DT (c7×St):=Ub8 Ta0 L.k L.kp L.al L.st L.xs
def lsM:St->DT (c7×St):=Ub8 oc0 L.k L.kp L.al L.st L.xs
def pr:(St->DT (c7×St))×PC:=(L.ls,.loop L.kp L.lc)
def prM:(St->DT (c7×St))×PC:=(L.lsM,.loopM L.kp L.lc)
def Ok:Prop:=∀s,H5 L.k L.F.res (L.pr.1 s) (p7 L.E L.k L.pr.2 s)
def OkE:Prop:=∀s,E8 (L.pr.1 s) (p7 L.E L.k L.pr.2 s)
def OkM:Prop:=∀s,E8 (L.prM.1 s) (p7 L.E L.k L.prM.2 s)
def Rd(hd:St->DT St)(bd:St->DT (c7×St))(p:π)(s:σ)(a:St)(b:Stp σ):Prop:=(Ca9 hd bd a).run=foL L.en L.xs p s b
def H0:Prop:=∀p s,L.Rd (Ta0 L.k L.kp) (Bc4 L.E L.k L.F.res (Jb3 L.rt L.lc)) p s (L.en p s) (L.st p s)
def H1:Prop:=∀p s,L.Rd (Ta0 L.k L.kp) (sb7 L.E L.k (Pa0 L.rt L.lc)) p s (L.en p s) (L.st p s)
def H2:Prop:=∀p s,L.Rd (oc0 L.k L.kp) (sb7 L.E L.k (Pa0 L.rt L.lc)) p s (L.en p s) (L.st p s)
def HA:Prop:=V2 (λx=>∀a H,(⟨Jc8 x.sh a,Jc9 x.bl H⟩:St)=L.en (x.rd a H).1 (x.rd a H).2) L.al
variable{L}
theorem Rd.of{hd:St->DT St}{bd:St->DT (c7×St)}{p:π}{s:σ}{a:St}(u:∀{α:Type},(σ->α)->(Nat->α)->α->π->σ->α)
  (q:Cps @u) (H:(Ca9 hd bd a).run=u (λx=>foL L.en L.xs p s (.next x)) (λt=>foL L.en L.xs p s (.exit t)) (foL L.en L.xs p s .fail) p s):L.Rd hd bd p s a (u .next .exit .fail p s) :=
 H.trans (q (foL L.en L.xs p s) Stp.next Stp.exit Stp.fail p s).symm
theorem Rd.sel{hd:St->DT St}{bd:St->DT (c7×St)}{p:π}{s:σ}{a1 a0:St}{b1 b0:Stp σ}(c:Bool)(h1:L.Rd hd bd p s a1 b1)(h0:L.Rd hd bd p s a0 b0):L.Rd hd bd p s (sel c a1 a0) (sel c b1 b0):=by
 cases c with
 |true=>exact h1
 |false=>exact h0
theorem ok(l:List ((St->DT (c7×St))×PC))(hs:Ia3 L.rt L.lc=l)(hl:V2 (λx=>∀s,H5 L.k L.F.res (x.1 s) (p7 L.E L.k x.2 s)) l)(hN:L.E.N=rounds+1)(ha:L.HA)(h:L.H0):L.Ok :=
 Ta6.belowC (Cc5 _ _ (by rw[hs];exact hl)) hN ⟨ha,h⟩
theorem okE(l:List ((St->DT (c7×St))×PC))(hs:Ia3 L.rt L.lc=l)(hl:V2 (λx=>∀s,E8 (x.1 s) (p7 L.E L.k x.2 s)) l)(hN:L.E.N=rounds+1)(ha:L.HA)(h:L.H1):L.OkE :=
 Ta6.belowML (dc4 _ _ (by rw[hs];exact hl)) hN ⟨ha,h⟩
theorem okM(l:List ((St->DT (c7×St))×PC))(hs:Ia3 L.rt L.lc=l)(hl:V2 (λx=>∀s,E8 (x.1 s) (p7 L.E L.k x.2 s)) l)(hN:L.E.N=rounds+1)(ha:L.HA)(h:L.H2):L.OkM :=
 Ta6.belowM (dc4 _ _ (by rw[hs];exact hl)) hN ⟨ha,h⟩
end Lo
theorem ne5{E:Env}{F:PFn}{args:List a7}{blks:List a8}{o:Option (a7×List a8)}(rt:RT)(l:List ((St->DT (c7×St))×PC))(hs:Ia3 rt F.body=l)
  (hl:V2 (λx=>∀s,H5 (len blks) F.res (x.1 s) (p7 E (len blks) x.2 s)) l) (h:(Fd5 E F (Jb3 rt F.body) args blks).run=o) (r:a7×List a8) (hr:o=some r):(i7 E F args blks).run=some r :=
 uc9 (Cc5 rt _ (by rw[hs];exact hl)) r (h.trans hr)
theorem ae4{E:Env}{F:PFn}{args:List a7}{blks:List a8}{o:Option (a7×List a8)}(rt:RT)(l:List ((St->DT (c7×St))×PC))(hs:Ia3 rt F.body=l)
  (hl:V2 (λx=>∀s,E8 (x.1 s) (p7 E (len blks) x.2 s)) l) (h:(Xc6 E F (Pa0 rt F.body) args blks).run=o) (r:a7×List a8) (hr:o=some r):(ha7 E F args blks).run=some r :=
 nc9 (dc4 rt _ (by rw[hs];exact hl)) r (h.trans hr)
theorem Da2{A o:Option (a7×List a8)}(h:A=o)(r:a7×List a8)(hr:o=some r):A=some r:=h.trans hr
def Cpa{π ρ:Type}(u:∀{α:Type},(ρ->α)->π->α):Prop:=∀{α β:Type} (F:α->β) (k:ρ->α) (p:π),F (u k p)=u (λx=>F (k x)) p
theorem Lo.Rd.ofq{π σ:Type}{L:Lo π σ}{hd:St->DT St}{bd:St->DT (c7×St)}{p:π}{s:σ}{a:St}(u:∀{α:Type},(σ->α)->(Nat->α)->α->π->σ->α)
  (q:Cps @u:=by intro _ _ F _ _ _ _ _;(repeat' apply wd9 (f:=F))<;>rfl) (H:(Ca9 hd bd a).run=u (λx=>foL L.en L.xs p s (.next x)) (λt=>foL L.en L.xs p s (.exit t)) (foL L.en L.xs p s .fail) p s:=by kernel_rfl):L.Rd hd bd p s a (u .next .exit .fail p s):=Lo.Rd.of @u q H
theorem Lo.okq {π σ : Type} {L : Lo π σ} (l : List ((St → DT (c7 × St)) × PC)) (hl : V2 (fun x => ∀ s, H5 L.k L.F.res (x.1 s) (p7 L.E L.k x.2 s)) l) (h : L.H0) (hs : Ia3 L.rt L.lc = l := by kernel_rfl) (hN : L.E.N = rounds + 1 := by rfl)
  (ha:L.HA:=by repeat' (first | exact .nil | refine .cons (λa H=>by kernel_rfl) ?_)):L.Ok:=Lo.ok l hs hl hN ha h
theorem Lo.okMq {π σ : Type} {L : Lo π σ} (l : List ((St → DT (c7 × St)) × PC)) (hl : V2 (fun x => ∀ s, E8 (x.1 s) (p7 L.E L.k x.2 s)) l) (h : L.H2) (hs : Ia3 L.rt L.lc = l := by kernel_rfl) (hN : L.E.N = rounds + 1 := by rfl)
  (ha:L.HA:=by repeat' (first | exact .nil | refine .cons (λa H=>by kernel_rfl) ?_)):L.OkM:=Lo.okM l hs hl hN ha h
theorem Pa1{E:Env}{F:PFn}{args:List a7}{blks:List a8}{o:Option (a7×List a8)}(rt:RT)(l:List ((St->DT (c7×St))×PC))
  (hl:V2 (λx=>∀s,H5 (len blks) F.res (x.1 s) (p7 E (len blks) x.2 s)) l) (h:(Fd5 E F (Jb3 rt F.body) args blks).run=o:=by kernel_rfl) (hs:Ia3 rt F.body=l:=by kernel_rfl) (r:a7×List a8) (hr:o=some r):(i7 E F args blks).run=some r:=ne5 rt l hs hl h r hr
theorem Lb2{E:Env}{F:PFn}{args:List a7}{blks:List a8}{o:Option (a7×List a8)}(rt:RT)(l:List ((St->DT (c7×St))×PC))
  (hl:V2 (λx=>∀s,E8 (x.1 s) (p7 E (len blks) x.2 s)) l) (h:(Xc6 E F (Pa0 rt F.body) args blks).run=o:=by kernel_rfl) (hs:Ia3 rt F.body=l:=by kernel_rfl) (r:a7×List a8) (hr:o=some r):(ha7 E F args blks).run=some r:=ae4 rt l hs hl h r hr
theorem mEq{π ρ β:Type}(u:∀{α:Type},(ρ->α)->π->α)(FO:ρ->β)(x:π){v:β}(h1:v=u FO x:=by kernel_rfl)(q:Cpa @u:=by intro _ _ F _ _;(repeat' apply wd9 (f:=F))<;>rfl):v=FO (u (λr=>r) x):=h1.trans (q FO (λr=>r) x).symm
abbrev nlq:a7:=.v (.slice none 0 0)
abbrev bq(et es:Nat)(el:List (List a7)):a8:=⟨et,es,el,true,false,0⟩
abbrev ab4{α:Type}(a n:Nat)(x:α)(y:DT α):DT α:=.ite (Nat.beq a n) (.ret x) y
theorem cb2{α ρ:Type}{P:Program}{G:Nat->List Value}{f:FuncId}{R0:Sum}{c0:Cod α}(hb:c8 P G f R0)(R:RR ρ){o:α->Option (a7×List a8)}(h:∀a0 r,o a0=some r->(R0 [c0.enc a0] []).run=some r:=by exact λ_=>Da2 (by kernel_rfl)):c8 P G f (G7 c0 λa0=>rdO R (o a0)):=bc9 hb R h
theorem Yc1{α:Type}{P:Program}{G:Nat->List Value}{f:FuncId}{R:Sum}{c0:Cod α}{k:α->DT (a7×List a8)}(hb:c8 P G f R)(h:∀a0 r,(k a0).run=some r->(R [c0.enc a0] []).run=some r:=by exact λ_=>Da2 (by kernel_rfl)):c8 P G f (G7 c0 k):=Ya4 hb h
theorem Lb3{α β ρ:Type}{P:Program}{G:Nat->List Value}{f:FuncId}{R0:Sum}{c0:Cod α}{c1:Cod β}(hb:c8 P G f R0)(R:RR ρ){o:α->β->Option (a7×List a8)}(h:∀a0 a1 r,o a0 a1=some r->(R0 [c0.enc a0,c1.enc a1] []).run=some r:=by exact λ_ _=>Da2 (by kernel_rfl)):c8 P G f (va0 c0 c1 λa0 a1=>rdO R (o a0 a1)):=Fd7 hb R h
theorem Yc2{α β:Type}{P:Program}{G:Nat->List Value}{f:FuncId}{R:Sum}{c0:Cod α}{c1:Cod β}{k:α->β->DT (a7×List a8)}(hb:c8 P G f R)(h:∀a0 a1 r,(k a0 a1).run=some r->(R [c0.enc a0,c1.enc a1] []).run=some r:=by exact λ_ _=>Da2 (by kernel_rfl)):c8 P G f (va0 c0 c1 k):=Bc2 hb h
theorem Ad2{α β γ ρ:Type}{P:Program}{G:Nat->List Value}{f:FuncId}{R0:Sum}{c0:Cod α}{c1:Cod β}{c2:Cod γ}(hb:c8 P G f R0)(R:RR ρ){o:α->β->γ->Option (a7×List a8)}(h:∀a0 a1 a2 r,o a0 a1 a2=some r->(R0 [c0.enc a0,c1.enc a1,c2.enc a2] []).run=some r:=by exact λ_ _ _=>Da2 (by kernel_rfl)):c8 P G f (Ab0 c0 c1 c2 λa0 a1 a2=>rdO R (o a0 a1 a2)):=je0 hb R h
def tbN:List (Nat×Sum):=[]
theorem Ab3{P:Program}{G:Nat->List Value}:A2 P G tbN:=trivial
abbrev upq(x:St)(l:List (Nat×a7)):St:=⟨l.foldl (λa q=>a.set q.1 q.2) x.a,x.H⟩
abbrev sIq:S2:=.s (.o (.int .i64))
abbrev sUq:S2:=.s (.o .unk)
abbrev sPq(n:Nat):S2:=.s (.o (.ptr n 0 0 0))
abbrev sTq(n:Nat):S2:=.s (.o (.tree n))
abbrev sLq{α:Type}(t:Ty α):S2:=.s (.c t.es (nL t))
abbrev kLq(n:Nat):List K:=List.replicate n (.o (.int .i64))
abbrev aIq(a:List a7)(n:Nat):Int:=toI (slT a n)
abbrev aNq(a:List a7)(n:Nat):Nat:=toN (slT a n)
abbrev aGq(a:List a7)(n:Nat):Nat->List a7:=toG (slT a n)
abbrev aLq{α:Type}(t:Ty α)(a:List a7)(n:Nat):List α:=rL t (slT a n)
abbrev hIq(H:List a8)(m r n:Nat):Int:=toI (slT (rwT (elT H m) r) n)
abbrev cIq(a:List a7)(m n:Nat):Int:=toI (slT (cellsOf (slT a m)) n)
abbrev hLq{α:Type}(t:Ty α)(H:List a8)(m r n:Nat):List α:=rL t (slT (rwT (elT H m) r) n)
end Go.Ev.L
namespace Go.Ev.Ce
structure V3 where
 x:Int
 y:Int
 z:Int
structure Pln where
 n:V3
 b:Int
structure Pt where
 px:Int
 py:Int
 pz:Int
 pw:Int
def c9(a b:V3):V3:=⟨a.y*b.z-a.z*b.y,a.z*b.x-a.x*b.z,a.x*b.y-a.y*b.x⟩
def dot(a b:V3):Int:=a.x*b.x+a.y*b.y+a.z*b.z
def mw(p q r:Pln):Int:=dot p.n (c9 q.n r.n)
end Go.Ev.Ce
namespace Go.Ev.Ce
open Go Go.Ev Go.Ev.L Go.Proofs
@[reducible] noncomputable def prog:Program:=Tryz.prog
def G:Nat->List Value:=λ_=>[]
def En(l:List (Nat×Sum)):Env:={ P:=prog,G,fns:=λ_=>none,call:=Fd1 l,own:=λf j=>Bool.and (ra1 f [113,109,156,131,139,141]) (Nat.beq j 0),N:=18446744073709551616 }
@[reducible] noncomputable def u:a7:=.v (.tuple #[])
theorem ae5{l:List (Nat×Sum)}(h:A2 prog G l):∀f,c8 (En l).P (En l).G f ((En l).call f):=Bc1 h
theorem bd{l:List (Nat×Sum)}{f:FuncId}{R:Env->Sum}(b:dc3 prog f R)(h:A2 prog G l):c8 prog G f (R (En l)):=b rfl (ae5 h)
def tV:Ty V3 where
 es:=3
 row x:=[i x.x,i x.y,i x.z]
 rd r:=⟨toI (hdA r),toI (hdA (tlA r)),toI (hdA (tlA (tlA r)))⟩
 ok r:=na3 3 r
 cks:=List.replicate 3 (.int .i64)
 d:=⟨0,0,0⟩
 h0 _:=rfl
 h1 _:=rfl
 h2 _:=rfl
 h3 _ h:=.of (xa2 h)
 h4 _:=rfl
 h5 _:=rfl
def r1V:R1 V3:=r1A tV 3 λ_ h=>h
def tP:Ty Pln where
 es:=4
 row x:=[i x.n.x,i x.n.y,i x.n.z,i x.b]
 rd r:=⟨⟨toI (hdA r),toI (hdA (tlA r)),toI (hdA (tlA (tlA r)))⟩,toI (hdA (tlA (tlA (tlA r))))⟩
 ok r:=na3 4 r
 cks:=List.replicate 4 (.int .i64)
 d:=⟨⟨0,0,0⟩,0⟩
 h0 _:=rfl
 h1 _:=rfl
 h2 _:=rfl
 h3 _ h:=.of (xa2 h)
 h4 _:=rfl
 h5 _:=rfl
abbrev PLq:=List Pln
abbrev LPq:=List PLq
abbrev tLq:=tLs tP
abbrev tMq:=tLs tLq
abbrev ROq:=Option (a7×List a8)
def r1P:R1 Pln:=r1A tP 4 λ_ h=>h
structure Tp where
 p:Pln
 q:Pln
 r:Pln
structure Q2 where
 a:V3
 b:V3
set_option maxRecDepth 100000
def Za1(x:V3)(y:V3):Int:=(W ((W ((W (x.x*y.x))+(W (x.y*y.y))))+(W (x.z*y.z))))
def Da3(x:V3)(y:V3):V3:=(⟨W ((W (x.y*y.z))-(W (x.z*y.y))),W ((W (x.z*y.x))-(W (x.x*y.z))),W ((W (x.x*y.y))-(W (x.y*y.x)))⟩:V3)
structure Yc3 where
structure Yc4 where
 (is0 is1:Int)
structure Id0 where
 L6:PLq
 (f7 d9 f9 l9:Int)
structure Id1 where
 is5:Int
structure gd6 where
 se4:List Pt
 (f7 d9 f9 l9:Int)
structure gd7 where
 is5:Int
structure Pc3 where
 L6:PLq
 (is4 is5:Int)
structure Pc4 where
 ph:Nat
 is6:Int
 ns3:Nat
 eh0:List (List a7)
structure Pc5 where
 is4:Int
structure Pc6 where
 ph:Nat
 L6:PLq
 is5:Int
 ns3:Nat
 eh0:List (List a7)
structure Pc7 where
structure Pc8 where
 ph:Nat
 L6:PLq
 is4:Int
 ns3:Nat
 eh0:List (List a7)
def la0(x:Int):ROq:=(sl (decide (x<0)) (some (i (W (0-x)),[])) (some (i x,[])))
def Z3(x:Int):Int:=T9 (one r1I) (la0 x)
def Z4(x:Int):Bool:=okO (one r1I) (la0 x)
structure ca2 where
 (is6 f7 d9 f9 wd1 he7 he8:Int)
structure K6 where
 (is5 is7:Int)
def ya8{α:Type}(k:K6->α)(e:Nat->α)(z:α)(p:ca2)(s:K6):α:=(sl (decide (s.is7>0)) (sl (s.is7==0) z (k ⟨s.is7,Int.tmod s.is5 s.is7⟩)) (e 1))
def Q3(p:ca2)(s:K6):Stp K6:=ya8 .next .exit .fail p s
def Na2(x:V3):ROq:=let y0:=(.tup [.agg [i 0,i 0,i 0],i 0],[]);let t1:=(Z3 x.x);let t2:=(lp (Q3 (⟨0,x.x,x.y,x.z,x.x,x.y,x.z⟩:ca2)) (⟨0,t1⟩:K6));let t3:=(Z3 x.y);let t4:=(lp (Q3 (⟨1,x.x,x.y,x.z,x.x,x.y,x.z⟩:ca2)) (⟨t2.2.is5,t3⟩:K6));let t5:=(Z3 x.z);let t6:=(lp (Q3 (⟨2,x.x,x.y,x.z,x.x,x.y,x.z⟩:ca2)) (⟨t4.2.is5,t5⟩:K6));(sl (x.x==(-9223372036854775808)) (some y0) (sl (Z4 x.x) (sl (Nat.beq t2.1 1) (sl (x.y==(-9223372036854775808)) (some y0) (sl (Z4 x.y) (sl (Nat.beq t4.1 1) (sl (x.z==(-9223372036854775808)) (some y0) (sl (Z4 x.z) (sl (Nat.beq t6.1 1) (sl (t6.2.is5==0) (some y0) (sl (t6.2.is5==0) none (sl (t6.2.is5==0) none (sl (t6.2.is5==0) none (some (.tup [.agg [i (W (Int.tdiv x.x t6.2.is5)),i (W (Int.tdiv x.y t6.2.is5)),i (W (Int.tdiv x.z t6.2.is5))],i t6.2.is5],[])))))) none) none)) none) none)) none) none))
def na8(x:V3):V3×Int:=T9 (two r1V r1I) (Na2 x)
def Na3(x:V3):Bool:=okO (two r1V r1I) (Na2 x)
def Da4(x:Pln):ROq:=let t1:=(na8 x.n);(sl (decide (x.n.x<(-4608))) (some (b false,[])) (sl (decide (x.n.x>4608)) (some (b false,[])) (sl (decide (x.n.y<(-4608))) (some (b false,[])) (sl (decide (x.n.y>4608)) (some (b false,[])) (sl (decide (x.n.z<(-4608))) (some (b false,[])) (sl (decide (x.n.z>4608)) (some (b false,[])) (sl (Na3 x.n) (sl (t1.2==1) (sl (decide (x.b>=(-2097152))) (some (b (decide (x.b<=2097152)),[])) (some (b false,[]))) (some (b false,[]))) none)))))))
def oc2(x:Pln):Bool:=T9 (one r1B) (Da4 x)
def Ua7(x:Pln):Bool:=okO (one r1B) (Da4 x)
structure gd8 where
 L6:PLq
structure gd9 where
 is3:Int
structure od0 where
 L6:PLq
 ge6:List Pt
 is4:Int
structure od1 where
 bs5:Bool
 is6:Int
structure od2 where
structure od3 where
 L6:PLq
 ge6:List Pt
 is4:Int
def E9(x:V3)(y:V3):Int:=(W ((W ((W (x.x*y.x))+(W (x.y*y.y))))+(W (x.z*y.z))))
def Da5:Sum:=va0 (ya5 tV) (ya5 tV) (λx y=>.ret ((one r1I).enc (E9 x y),[]))
theorem Na4:c8 prog G 72 Da5:=Yc2 (bd b72 Ab3)
def L0(x:V3)(y:V3):V3:=(⟨W ((W (x.y*y.z))-(W (x.z*y.y))),W ((W (x.z*y.x))-(W (x.x*y.z))),W ((W (x.x*y.y))-(W (x.y*y.x)))⟩:V3)
def Fa4:Sum:=va0 (ya5 tV) (ya5 tV) (λx y=>.ret ((one r1V).enc (L0 x y),[]))
theorem Ua8:c8 prog G 73 Fa4:=Yc2 (bd b73 Ab3)
structure R6 where
 is0:Int
 Gc7:List Int
 is8:Int
structure A0 where
 is9:Int
def Da6(p:R6)(s:A0):St:=⟨i p.is0::ra 6 (eL tI p.Gc7::i p.is8::i s.is9::ra 13 []),[]⟩
def U4{α:Type}(k:A0->α)(e:Nat->α)(z:α)(p:R6)(s:A0):α:=(sl (decide (s.is9<p.is8)) (sl (inB s.is9 (List.length p.Gc7)) (sl (decide ((gL tI p.Gc7 s.is9.toNat)<(W (0-p.is0)))) (e 1) (sl (decide ((gL tI p.Gc7 s.is9.toNat)>p.is0)) (e 1) (k ⟨W (s.is9+1)⟩))) z) (e 2))
def P7(p:R6)(s:A0):Stp A0:=U4 .next .exit .fail p s
def na9:Lo R6 A0:=⟨En tbN,0,Hd9,[1,0,1,4,4],[0,7,8,9],.p,[⟨sIq::ru2 6 (sLq tI::sIq::sIq::ru2 13 []),[],λa H=>(⟨aIq a 0,aLq tI a 7,aIq a 8⟩,⟨aIq a 9⟩)⟩],P7,[(none,λp s=>⟨[b false],[]⟩),(some 0,λp s=>upq (Da6 p s) [(10,b (decide (s.is9<p.is8)))])],Da6⟩
theorem lb7:na9.Ok:=Lo.okq [] .nil λp s=>(.ofq @U4)
def Z5(x:Int)(y:List Int):ROq:=let t1:=(lp (P7 (⟨x,rt tI y,(↑(List.length y):Int)⟩:R6)) (⟨0⟩:A0));(sl ((cnE tI y)&&true) (sl (Nat.beq t1.1 1) (some (b false,[])) (sl (Nat.beq t1.1 2) (some (b true,[])) none)) none)
def R7(x:Int)(y:List Int):Bool:=T9 (one r1B) (Z5 x y)
def R8(x:Int)(y:List Int):Bool:=okO (one r1B) (Z5 x y)
def ya9:Sum:=va0 cI (da6 tI) (λx y=>.guard (R8 x y) (.ret ((one r1B).enc (R7 x y),[])))
theorem Pa2:c8 prog G 91 ya9:=Fd7 (bd b91 Ab3) (one r1B) (o:=Z5) λx y=>Pa1 (.s .p (.s (.s .p (.b (.u na9.ls))) .p)) [na9.pr] (.cons lb7 .nil)
def ca3(x:Int):Int:=(if (W (0-x))>x then (W (0-x)) else x)
def Ia8:Sum:=G7 cI (λx=>.ret ((one r1I).enc (ca3 x),[]))
theorem lb8:c8 prog G 92 Ia8:=Yc1 (bd b92 Ab3)
def oa0:List (Nat×Sum):=[(92,Ia8)]
theorem lb9:A2 prog G oa0:=⟨lb8,trivial⟩
structure I0 where
 Ea7:List Int
 (is7 is8:Int)
structure B4 where
 (is3 is5:Int)
def za0(p:I0)(s:B4):St:=⟨ra 3 (i s.is3::.unk::i s.is5::eL tI p.Ea7::i p.is7::i p.is8::ra 15 []),[]⟩
def Q6{α:Type}(k:B4->α)(e:Nat->α)(z:α)(p:I0)(s:B4):α:=(sl (decide (s.is5>0)) (sl (s.is5==0) z (k ⟨s.is5,Int.tmod s.is3 s.is5⟩)) (e 1))
def G4(p:I0)(s:B4):Stp B4:=Q6 .next .exit .fail p s
def la1:Lo I0 B4:=⟨En oa0,0,Dc8,[1,1,0,1,4,4,1,1,0,4,1,1,1,4,4],[3,5,6,7,8],.p,[⟨ru2 3 (sIq::sUq::sIq::sLq tI::sIq::sIq::ru2 15 []),[],λa H=>(⟨aLq tI a 6,aIq a 7,aIq a 8⟩,⟨aIq a 3,aIq a 5⟩)⟩],G4,[(some 2,λp s=>upq (za0 p s) [(16,i s.is5),(17,b (decide (s.is5>0)))])],za0⟩
theorem gb3:la1.Ok:=Lo.okq [] .nil λp s=>(.ofq @Q6)
structure P8 where
 is7:Int
structure r9 where
 is3:Int
 Ea7:List Int
 is8:Int
def za1(p:P8)(s:r9):St:=⟨ra 3 (i s.is3::.unk::.unk::eL tI s.Ea7::i p.is7::i s.is8::ra 15 []),[]⟩
def Q7{α:Type}(k:r9->α)(e:Nat->α)(z:α)(p:P8)(s:r9):α:=let t1:=(ca3 (gL tI s.Ea7 s.is8.toNat));let t2:=(lp (G4 (⟨rt tI s.Ea7,p.is7,s.is8⟩:I0)) (⟨s.is3,t1⟩:B4));(sl (decide (s.is8<p.is7)) (sl (inB s.is8 (List.length s.Ea7)) (sl ((gL tI s.Ea7 s.is8.toNat)==(-9223372036854775808)) (e 1) (sl ((cnE tI s.Ea7)&&true) (sl (Nat.beq t2.1 1) (k ⟨t2.2.is3,rt tI s.Ea7,W (s.is8+1)⟩) z) z)) z) (e 2))
def M5(p:P8)(s:r9):Stp r9:=Q7 .next .exit .fail p s
def la2:Lo P8 r9:=⟨En oa0,0,Dc8,[1,1,0,1,4,4],[3,6,7,8],.s .p (.s .p (.s (.b (.s .p (.s .p (.s .p (.b (.u la1.ls)))))) .p)),[⟨ru2 3 (sIq::sUq::sUq::sLq tI::sIq::sIq::ru2 15 []),[],λa H=>(⟨aIq a 7⟩,⟨aIq a 3,aLq tI a 6,aIq a 8⟩)⟩],M5,[(none,λp s=>⟨[i 0],[]⟩),(some 0,λp s=>upq (za1 p s) [(9,b (decide (s.is8<p.is7)))])],za1⟩
theorem gb4:la2.Ok:=Lo.okq [la1.pr] (.cons gb3 .nil) λp s=>(.ofq @Q7)
def V4(x:List Int):ROq:=let t1:=(lp (M5 (⟨(↑(List.length x):Int)⟩:P8)) (⟨0,rt tI x,0⟩:r9));(sl ((cnE tI x)&&true) (sl (Nat.beq t1.1 1) (some (i 0,[])) (sl (Nat.beq t1.1 2) (some (i t1.2.is3,[])) none)) none)
def J4(x:List Int):Int:=T9 (one r1I) (V4 x)
def J5(x:List Int):Bool:=okO (one r1I) (V4 x)
def sa0:Sum:=G7 (da6 tI) (λx=>.guard (J5 x) (.ret ((one r1I).enc (J4 x),[])))
theorem Ia9:c8 prog G 122 sa0:=bc9 (bd ae0 lb9) (one r1I) (o:=V4) λx=>Pa1 (.s .p (.s .p (.s (.s .p (.b (.u la2.ls))) .p))) [la2.pr] (.cons gb4 .nil)
def Lb4:List (Nat×Sum):=[(91,ya9),(122,sa0)]
theorem Ab4:A2 prog G Lb4:=⟨Pa2,Ia9,trivial⟩
def ea2(x:Pln):ROq:=let t1:=(R7 4608 [x.n.x,x.n.y,x.n.z]);let t2:=(J4 [x.n.x,x.n.y,x.n.z]);let t3:=(R7 2097152 [x.b]);(sl (R8 4608 [x.n.x,x.n.y,x.n.z]) (sl t1 (sl (J5 [x.n.x,x.n.y,x.n.z]) (sl (t2==1) (sl (R8 2097152 [x.b]) (some (b t3,[])) none) (some (b false,[]))) none) (some (b false,[]))) none)
def pa2(x:Pln):Bool:=T9 (one r1B) (ea2 x)
def pa3(x:Pln):Bool:=okO (one r1B) (ea2 x)
def cb3:Sum:=G7 (ya5 tP) (λx=>.guard (pa3 x) (.ret ((one r1B).enc (pa2 x),[])))
theorem Lb5:c8 prog G 90 cb3:=cb2 (bd b90 Ab4) (one r1B) (o:=ea2)
def ea3(x:Int)(y:Int):ROq:=(sl (decide (x<y)) (some (i (-1),[])) (sl (decide (x>y)) (some (i 1,[])) (some (i 0,[]))))
def L1(x:Int)(y:Int):Int:=T9 (one r1I) (ea3 x y)
def L2(x:Int)(y:Int):Bool:=okO (one r1I) (ea3 x y)
def Fa5:Sum:=va0 cI cI (λx y=>.guard (L2 x y) (.ret ((one r1I).enc (L1 x y),[])))
theorem Ua9:c8 prog G 115 Fa5:=Lb3 (bd Zd9 Ab3) (one r1I) (o:=ea3)
def sb9:List (Nat×Sum):=[(115,Fa5)]
theorem mb0:A2 prog G sb9:=⟨Ua9,trivial⟩
def V5(x:Pln)(y:Pln):ROq:=let t1:=(L1 x.n.x y.n.x);let t2:=(L1 x.n.y y.n.y);let t3:=(L1 x.n.z y.n.z);let t4:=(L1 x.b y.b);(sl (L2 x.n.x y.n.x) (sl (t1==0) (sl (L2 x.n.y y.n.y) (sl (t2==0) (sl (L2 x.n.z y.n.z) (sl (t3==0) (sl (L2 x.b y.b) (sl (t4==0) (some (i t4,[])) (some (i t4,[]))) none) (some (i t3,[]))) none) (some (i t2,[]))) none) (some (i t1,[]))) none)
def ga3(x:Pln)(y:Pln):Int:=T9 (one r1I) (V5 x y)
def ga4(x:Pln)(y:Pln):Bool:=okO (one r1I) (V5 x y)
def sa1:Sum:=va0 (ya5 tP) (ya5 tP) (λx y=>.guard (ga4 x y) (.ret ((one r1I).enc (ga3 x y),[])))
theorem tb0:c8 prog G 114 sa1:=Lb3 (bd ke6 mb0) (one r1I) (o:=V5)
def oc3:List (Nat×Sum):=[(91,ya9)]
theorem dc5:A2 prog G oc3:=⟨Pa2,trivial⟩
def za2(x:V3):ROq:=let t1:=(R7 24 [x.x,x.y,x.z]);(sl (R8 24 [x.x,x.y,x.z]) (some (b t1,[])) none)
def Z6(x:V3):Bool:=T9 (one r1B) (za2 x)
def Z7(x:V3):Bool:=okO (one r1B) (za2 x)
def Na5:Sum:=G7 (ya5 tV) (λx=>.guard (Z7 x) (.ret ((one r1B).enc (Z6 x),[])))
theorem Va0:c8 prog G 68 Na5:=cb2 (bd b68 dc5) (one r1B) (o:=za2)
structure Id2 where
 (l9 he9 ie0 ie1 ie2 ie3:Int)
end Go.Ev.Ce
namespace Go.Proofs
open Go.Shelf
set_option maxRecDepth 100000 in
def Ce.sortLay_ren:Go.Shelf.Ren:=⟨fun | 6=>113 | 15=>147 | 14=>146 | 28=>169 | 29=>170 | 20=>161 | 21=>162 | 22=>163 | 23=>164 | 24=>165 | 25=>166 | 26=>167 | 27=>168 | 46=>183 | 47=>184 | 48=>185 | 49=>186 | 50=>187 | 57=>195 | n=>n,fun | 22=>43 | 24=>66 | 25=>126 | 3=>3 | 39=>172 | 0=>0 | 53=>190 | 55=>192 | 4=>4 | 46=>183 | 45=>182 | 50=>187 | 5=>5 | 9=>9 | 66=>199 | 70=>203 | 76=>214 | 77=>215 | n=>n,fun | n=>n⟩
set_option maxRecDepth 100000 in
theorem Ce.sortLay:Go.Proofs.SlLaysF0.n6 Tryz.prog Ce.sortLay_ren:={
 mixed:=by kernel_rfl
 f6:=⟨Tryz.f113.name,by decide,Tryz.func113.trans (congrArg some (by kernel_rfl))⟩
 f14:=⟨Tryz.f146.name,by decide,Tryz.func146.trans (congrArg some (by kernel_rfl))⟩
 f15:=Tryz.func147.trans (congrArg some (by kernel_rfl))
 f20:=⟨Tryz.f161.name,by decide,Tryz.func161.trans (congrArg some (by kernel_rfl))⟩
 f21:=⟨Tryz.f162.name,by decide,Tryz.func162.trans (congrArg some (by kernel_rfl))⟩
 f22:=⟨Tryz.f163.name,by decide,Tryz.func163.trans (congrArg some (by kernel_rfl))⟩
 f23:=⟨Tryz.f164.name,by decide,Tryz.func164.trans (congrArg some (by kernel_rfl))⟩
 f24:=⟨Tryz.f165.name,by decide,Tryz.func165.trans (congrArg some (by kernel_rfl))⟩
 f25:=⟨Tryz.f166.name,by decide,Tryz.func166.trans (congrArg some (by kernel_rfl))⟩
 f26:=⟨Tryz.f167.name,by decide,Tryz.func167.trans (congrArg some (by kernel_rfl))⟩
 f27:=⟨Tryz.f168.name,by decide,Tryz.func168.trans (congrArg some (by kernel_rfl))⟩
 f28:=Tryz.func169.trans (congrArg some (by kernel_rfl))
 f29:=Tryz.func170.trans (congrArg some (by kernel_rfl))
 f46:=⟨Tryz.f183.name,by decide,Tryz.func183.trans (congrArg some (by kernel_rfl))⟩
 f47:=Tryz.func184.trans (congrArg some (by kernel_rfl))
 f48:=Tryz.func185.trans (congrArg some (by kernel_rfl))
 f49:=⟨Tryz.f186.name,by decide,Tryz.func186.trans (congrArg some (by kernel_rfl))⟩
 f50:=⟨Tryz.f187.name,by decide,Tryz.func187.trans (congrArg some (by kernel_rfl))⟩
 f57:=⟨Tryz.f195.name,by decide,Tryz.func195.trans (congrArg some (by kernel_rfl))⟩
 t0:=Tryz.underlying0
 a0:=Tryz.isAgg0
 z0:=Tryz.sizeOf0
 v0:=Tryz.zeroValue0
 t3:=Tryz.underlying3
 a3:=Tryz.isAgg3
 z3:=Tryz.sizeOf3
 v3:=Tryz.zeroValue3
 t4:=Tryz.underlying4
 a4:=Tryz.isAgg4
 z4:=Tryz.sizeOf4
 v4:=Tryz.zeroValue4
 t5:=Tryz.underlying5
 a5:=Tryz.isAgg5
 z5:=Tryz.sizeOf5
 v5:=Tryz.zeroValue5
 t9:=Tryz.underlying9
 a9:=Tryz.isAgg9
 z9:=Tryz.sizeOf9
 v9:=Tryz.zeroValue9
 t22:=Tryz.underlying43
 a22:=Tryz.isAgg43
 z22:=Tryz.sizeOf43
 v22:=Tryz.zeroValue43
 t25:=Tryz.underlying126
 a25:=Tryz.isAgg126
 z25:=Tryz.sizeOf126
 v25:=Tryz.zeroValue126
 t39:=Tryz.underlying172
 a39:=Tryz.isAgg172
 z39:=Tryz.sizeOf172
 v39:=Tryz.zeroValue172
 t45:=Tryz.underlying182
 a45:=Tryz.isAgg182
 z45:=Tryz.sizeOf182
 v45:=Tryz.zeroValue182
 t46:=Tryz.underlying183
 a46:=Tryz.isAgg183
 z46:=Tryz.sizeOf183
 v46:=Tryz.zeroValue183
 t50:=Tryz.underlying187
 a50:=Tryz.isAgg187
 z50:=Tryz.sizeOf187
 v50:=Tryz.zeroValue187
 t53:=Tryz.underlying190
 a53:=Tryz.isAgg190
 z53:=Tryz.sizeOf190
 v53:=Tryz.zeroValue190
 t55:=Tryz.underlying192
 a55:=Tryz.isAgg192
 z55:=Tryz.sizeOf192
 v55:=Tryz.zeroValue192
 t66:=Tryz.underlying199
 a66:=Tryz.isAgg199
 z66:=Tryz.sizeOf199
 v66:=Tryz.zeroValue199
 t70:=Tryz.underlying203
 a70:=Tryz.isAgg203
 z70:=Tryz.sizeOf203
 v70:=Tryz.zeroValue203
 t76:=Tryz.underlying214
 a76:=Tryz.isAgg214
 z76:=Tryz.sizeOf214
 v76:=Tryz.zeroValue214
 t77:=Tryz.underlying215
 a77:=Tryz.isAgg215
 z77:=Tryz.sizeOf215
 v77:=Tryz.zeroValue215 }
end Go.Proofs
namespace Go.Ev.Ce
open Go Go.Ev Go.Ev.L Go.Proofs Go.Sort
def Fa6(x y:Int):Int:=if x<y then -1 else if x>y then 1 else 0
def Fa7(x y:Pln):Int :=
 if Fa6 x.n.x y.n.x=0 then if Fa6 x.n.y y.n.y=0 then if Fa6 x.n.z y.n.z=0 then Fa6 x.b y.b else Fa6 x.n.z y.n.z else Fa6 x.n.y y.n.y else Fa6 x.n.x y.n.x
theorem Na6(x y:Int):Fa6 x y<0↔x<y:=by unfold Fa6;split<;>(try split)<;>omega
theorem mb1(x y:Int):Fa6 x y=0↔x=y:=by unfold Fa6;split<;>(try split)<;>omega
def LtP(x y:Pln):Prop:=x.n.x<y.n.x\/x.n.x=y.n.x/\(x.n.y<y.n.y\/x.n.y=y.n.y/\(x.n.z<y.n.z\/x.n.z=y.n.z/\x.b<y.b))
instance(x y:Pln):Decidable (LtP x y):=by unfold LtP;exact inferInstance
theorem dc6(x y:Pln):Fa7 x y<0↔LtP x y:=by
 have h1:=Na6 x.n.x y.n.x;have h2:=mb1 x.n.x y.n.x;have h3:=Na6 x.n.y y.n.y;have h4:=mb1 x.n.y y.n.y;have h5:=Na6 x.n.z y.n.z;have h6:=mb1 x.n.z y.n.z;have h7:=Na6 x.b y.b;unfold Fa7 LtP;split
 ·split
  ·split<;>omega
  ·omega
 ·omega
theorem oa1(x y:Pln):ltOf Fa7 x y=decide (LtP x y):=by
 unfold ltOf;rw[decide_eq_decide];exact dc6 x y
theorem ae6:SWO (ltOf Fa7) where
 irrefl x:=by rw[oa1];simp[LtP]
 trans x y z h1 h2:=by rw[oa1,decide_eq_true_eq] at *;unfold LtP at *;omega
 ntrans x y z h1 h2:=by rw[oa1,decide_eq_false_iff_not] at *;unfold LtP at *;omega
theorem ne6(x y:Pln)(h1:ltOf Fa7 x y=false)(h2:ltOf Fa7 y x=false):x=y:=by
 rw[oa1,decide_eq_false_iff_not] at *
 unfold LtP at *
 obtain⟨⟨a,b,c⟩,d⟩:=x;obtain⟨⟨a',b',c'⟩,d'⟩:=y
 simp only at *
 have:a=a'/\b=b'/\c=c'/\d=d':=by omega
 obtain⟨rfl,rfl,rfl,rfl⟩:=this;rfl
theorem oc4(x y:Int):ea3 x y=some (i (Fa6 x y),[]):=by
 unfold ea3 Fa6;simp only[fb9,decide_eq_true_eq]
 split<;>(try split)<;>rfl
theorem Ec0(x y:Int):L1 x y=Fa6 x y:=by unfold L1;rw[oc4];rfl
theorem Ec1(x y:Int):L2 x y=true:=by unfold L2;rw[oc4];rfl
theorem Lb6(x y:Pln):V5 x y=some (i (Fa7 x y),[]):=by
 unfold V5 Fa7;simp only[Ec0,Ec1,fb9,beq_iff_eq,if_true]
 repeat' (first | rfl | split)
theorem ae7(x y:Pln):ga3 x y=Fa7 x y:=by unfold ga3;rw[Lb6];rfl
theorem ae8(x y:Pln):ga4 x y=true:=by unfold ga4;rw[Lb6];rfl
theorem ae9(x y:Pln):(sa1 [.agg (tP.row x),.agg (tP.row y)] []).run=some (i (Fa7 x y),[]):=by
 have:(sa1 [.agg (tP.row x),.agg (tP.row y)] []).run=sel (ga4 x y) (some (i (ga3 x y),[])) none:=by kernel_rfl
 rw[this,ae8,ae7]
def sb6(p:Pln):List Value:=[.int .i64 p.n.x,.int .i64 p.n.y,.int .i64 p.n.z,.int .i64 p.b]
instance:Inhabited Pln:=⟨⟨⟨0,0,0⟩,0⟩⟩
def cb4(l:PLq):PLq:=l.mergeSort λx y=>!ltOf Fa7 y x
theorem Za2(l:PLq):(cb4 l).length=l.length:=Qhb l
def ia5:Sum:=Cc7 tP 114 66 cb4
theorem Yc5:Ce.sortLay_ren.f 6=113:=by kernel_rfl
theorem Wb4:Ce.sortLay_ren.t 24=66:=by kernel_rfl
set_option maxRecDepth 100000 in
theorem Fa8:c8 prog G 113 ia5:=by
 refine Cc8 (enc:=sb6) (cf:=Fa7) ⟨_,Tryz.func113,by kernel_rfl,of_decide_eq_true (by kernel_rfl)⟩ (by decide) (λ_=>rfl) (λr h=>xa2 (n:=4) h) (λx v hv=>?_) Za2
  (λblk off size w=>Cc6 tb0 ae9 (λ_=>rfl) (λ_=>rfl) _ _ _ _ _) (λblk cap d w hcl hH hb hs=>?_)
 ·simp[sb6] at hv
  rcases hv with rfl|rfl|rfl|rfl<;>rfl
 ·have eg:∀args w,(callFunc 114 args).run Tryz.prog w=.ok (.enter 114 args) w:=enters_of Tryz.func114 (by kernel_rfl) rfl
  have:=AnyQ.slices_SortFunc Ce.sortLay 4 (by rw[Wb4];exact Tryz.isAgg66) (by rw[Wb4];exact Tryz.sizeOf66) sb6 (λ_=>rfl) (λx v hv=>by simp[sb6] at hv;rcases hv with rfl | rfl | rfl | rfl<;>rfl) Fa7 ae6 114 #[] blk 0 cap d w eg (hcl 0 d.size) hH hb hs
  rw[Yc5] at this;refine this.mono λe w' ⟨h1,d',n,os,h2,h3,h4⟩=>⟨h1,n,os,?_⟩
  have h5:=sorted_unique_holds ae6 ne6 d d' h2 h3;rw[h4];show _=sortWorldK sb6 4 w blk 0 n (d.toList.mergeSort λx y=>!ltOf Fa7 y x).toArray os
  rw[<- h5]
end Go.Ev.Ce
namespace Go.Ev.Ce
open Go Go.Ev Go.Ev.L Go.Proofs
set_option maxRecDepth 100000
structure Pc9 where
 is1:Int
 wb5:List Int
 d9:Int
structure Qc0 where
 alt:Nat
 (is0 d9:Int)
structure Rd0 where
 is1:Int
 wb5:List Int
 d9:Int
structure Rd1 where
 alt:Nat
 (Ka8 Ka9 La0:Int)
 wb5:List Int
 d9:Int
def xa3(x:V3)(y:V3):V3:=(⟨W (x.x-y.x),W (x.y-y.y),W (x.z-y.z)⟩:V3)
def mb2(x:V3):ROq:=(sl (decide (x.x<(-24))) (some (b false,[])) (sl (decide (x.x>24)) (some (b false,[])) (sl (decide (x.y<(-24))) (some (b false,[])) (sl (decide (x.y>24)) (some (b false,[])) (sl (decide (x.z<(-24))) (some (b false,[])) (sl (decide (x.z>24)) (some (b false,[])) (some (b true,[]))))))))
def Ja0(x:V3):Bool:=T9 (one r1B) (mb2 x)
def Ja1(x:V3):Bool:=okO (one r1B) (mb2 x)
def pa4(x:V3)(y:V3)(z:V3):ROq:=let y0:=(.tup [.agg [i 0,i 0,i 0,i 0],b false],[]);let t1:=(Ja0 x);let t2:=(Ja0 y);let t3:=(Ja0 z);let t4:=(xa3 y x);let t5:=(xa3 z x);let t6:=(Da3 t4 t5);let t7:=(na8 t6);let t8:=(Za1 t7.1 x);(sl (Ja1 x) (sl (!t1) (some y0) (sl (Ja1 y) (sl (!t2) (some y0) (sl (Ja1 z) (sl (!t3) (some y0) (sl (Na3 t6) (sl (t7.2==0) (some y0) (some (.tup [.agg [i t7.1.x,i t7.1.y,i t7.1.z,i t8],b true],[]))) none)) none)) none)) none)
def Qb0(x:V3)(y:V3)(z:V3):Pln×Bool:=T9 (two r1P r1B) (pa4 x y z)
def Fa9(x:V3)(y:V3)(z:V3):Bool:=okO (two r1P r1B) (pa4 x y z)
def Na7(x:Pln)(y:V3):ROq:=let t1:=(oc2 x);let t2:=(Ja0 y);let t3:=(Za1 x.n y);(sl (Ua7 x) (sl (!t1) (some (i 0,[])) (sl (Ja1 y) (sl (!t2) (some (i 0,[])) (sl (decide ((W (t3-x.b))<0)) (some (i (-1),[])) (sl (decide ((W (t3-x.b))>0)) (some (i 1,[])) (some (i 0,[]))))) none)) none)
def xc6(x:Pln)(y:V3):Int:=T9 (one r1I) (Na7 x y)
def Lb7(x:Pln)(y:V3):Bool:=okO (one r1I) (Na7 x y)
structure Qc1 where
 (f7 d9 f9 l9 qb1 qb2 qb3 ie4:Int)
structure Qc2 where
 is7:Int
structure la3 where
 j9:List V3
 (is3 is4 is5:Int)
 bs7:Bool
 (f7 d9 f9 l9:Int)
structure ca4 where
 is8:Int
def za3{α:Type}(k:ca4->α)(e:Nat->α)(z:α)(p:la3)(s:ca4):α:=let y0:=(⟨(⟨p.f7,p.d9,p.f9⟩:V3),p.l9⟩:Pln);let t1:=(xc6 y0 (gL tV p.j9 s.is8.toNat));(sl (decide (s.is8<(↑(List.length p.j9):Int))) (sl p.bs7 (sl (inB s.is8 (List.length p.j9)) (sl (Lb7 y0 (gL tV p.j9 s.is8.toNat)) (sl (t1 != 0) (e 1) (k ⟨W (s.is8+1)⟩)) z) z) (e 2)) (e 3))
def ea4(p:la3)(s:ca4):Stp ca4:=za3 .next .exit .fail p s
structure Na8 where
 (is3 is4:Int)
structure ca5 where
 j9:List V3
 is5:Int
def za4{α:Type}(k:ca5->α)(e:Nat->α)(z:α)(p:Na8)(s:ca5):α:=let y0:=(List.length s.j9);let t1:=(Qb0 (gL tV s.j9 p.is3.toNat) (gL tV s.j9 p.is4.toNat) (gL tV s.j9 s.is5.toNat));let t2:=(lp (ea4 (⟨rt tV s.j9,p.is3,p.is4,s.is5,t1.2,t1.1.n.x,t1.1.n.y,t1.1.n.z,t1.1.b⟩:la3)) (⟨0⟩:ca4));(sl (decide (s.is5<p.is4)) (sl (inB p.is3 y0) (sl (inB p.is4 y0) (sl (inB s.is5 y0) (sl (Fa9 (gL tV s.j9 p.is3.toNat) (gL tV s.j9 p.is4.toNat) (gL tV s.j9 s.is5.toNat)) (sl ((cnE tV s.j9)&&true) (sl (Nat.beq t2.1 1) (e 1) (sl (Nat.beq t2.1 2) (k ⟨rt tV s.j9,W (s.is5+1)⟩) (sl (Nat.beq t2.1 3) (k ⟨rt tV s.j9,W (s.is5+1)⟩) z))) z) z) z) z) z) (e 2))
def ea5(p:Na8)(s:ca5):Stp ca5:=za4 .next .exit .fail p s
structure Na9 where
 is3:Int
structure ca6 where
 j9:List V3
 is4:Int
def za5{α:Type}(k:ca6->α)(e:Nat->α)(z:α)(p:Na9)(s:ca6):α:=let t1:=(lp (ea5 (⟨p.is3,s.is4⟩:Na8)) (⟨rt tV s.j9,0⟩:ca5));(sl (decide (s.is4<p.is3)) (sl ((cnE tV s.j9)&&true) (sl (Nat.beq t1.1 1) (e 1) (sl (Nat.beq t1.1 2) (k ⟨t1.2.j9,W (s.is4+1)⟩) z)) z) (e 2))
def ea6(p:Na9)(s:ca6):Stp ca6:=za5 .next .exit .fail p s
structure Oa0 where
structure ca7 where
 j9:List V3
 is3:Int
def za6{α:Type}(k:ca7->α)(e:Nat->α)(z:α)(p:Oa0)(s:ca7):α:=let t1:=(lp (ea6 (⟨s.is3⟩:Na9)) (⟨rt tV s.j9,0⟩:ca6));(sl (decide (s.is3<(↑(List.length s.j9):Int))) (sl ((cnE tV s.j9)&&true) (sl (Nat.beq t1.1 1) (e 1) (sl (Nat.beq t1.1 2) (k ⟨t1.2.j9,W (s.is3+1)⟩) z)) z) (e 2))
def ea7(p:Oa0)(s:ca7):Stp ca7:=za6 .next .exit .fail p s
def Lb8(x:List V3):ROq:=let t1:=(lp (ea7 (⟨⟩:Oa0)) (⟨rt tV x,0⟩:ca7));(sl ((cnE tV x)&&true) (sl (Nat.beq t1.1 1) (some (b false,[])) (sl (Nat.beq t1.1 2) (some (b true,[])) none)) none)
structure hd4 where
 j9:List V3
structure hd5 where
 is3:Int
structure hd6 where
 se5:List V3
 (f7 d9 f9 l9:Int)
structure hd7 where
 is5:Int
structure Ad3 where
 L6:PLq
 (f7 d9 f9 l9:Int)
structure Ad4 where
 is5:Int
structure hd8 where
 j9:List V3
 (is6 is7:Int)
structure hd9 where
 ph:Nat
 is8:Int
 Dd6:PLq
structure id3 where
 is6:Int
structure id4 where
 ph:Nat
 j9:List V3
 is7:Int
 Dd6:PLq
structure id5 where
structure id6 where
 ph:Nat
 j9:List V3
 is6:Int
 Dd6:PLq
structure Yc6 where
 is4:Int
structure Yc7 where
 ph:Nat
 is6:Int
 wb5:List Int
 d9:Int
 ns5:Nat
 eh1:List (List a7)
structure od4 where
 (L6 ge7:PLq)
structure od5 where
 is5:Int
def Z8(x:V3)(y:V3):V3:=(⟨W (x.x-y.x),W (x.y-y.y),W (x.z-y.z)⟩:V3)
def Va1:Sum:=va0 (ya5 tV) (ya5 tV) (λx y=>.ret ((one r1V).enc (Z8 x y),[]))
theorem mb3:c8 prog G 40 Va1:=Yc2 (bd b40 Ab3)
def Qb1:List (Nat×Sum):=[(40,Va1)]
theorem Lb9:A2 prog G Qb1:=⟨mb3,trivial⟩
def ca8(x:Pln):Pln:=let t1:=(Z8 (⟨0,0,0⟩:V3) x.n);(⟨t1,W (0-x.b)⟩:Pln)
def mb4:Sum:=G7 (ya5 tP) (λx=>.ret ((one r1P).enc (ca8 x),[]))
theorem Qb2:c8 prog G 144 mb4:=Yc1 (bd le8 Lb9)
def Qb3:List (Nat×Sum):=[(122,sa0)]
theorem Mb0:A2 prog G Qb3:=⟨Ia9,trivial⟩
def la4(x:V3):ROq:=let t1:=(J4 [x.x,x.y,x.z]);(sl (J5 [x.x,x.y,x.z]) (sl (t1==0) (some (.tup [.agg [i 0,i 0,i 0],i 0],[])) (sl (t1==0) none (sl (t1==0) none (sl (t1==0) none (some (.tup [.agg [i (W (Int.tdiv x.x t1)),i (W (Int.tdiv x.y t1)),i (W (Int.tdiv x.z t1))],i t1],[])))))) none)
def ca9(x:V3):V3×Int:=T9 (two r1V r1I) (la4 x)
def va1(x:V3):Bool:=okO (two r1V r1I) (la4 x)
def mb5:Sum:=G7 (ya5 tV) (λx=>.guard (va1 x) (.ret ((two r1V r1I).enc (ca9 x),[])))
theorem Qb4:c8 prog G 160 mb5:=cb2 (bd ae3 Mb0) (two r1V r1I) (o:=la4)
def tb1:List (Nat×Sum):=[(68,Na5),(40,Va1),(73,Fa4),(160,mb5),(72,Da5)]
theorem mb6:A2 prog G tb1:=⟨Va0,mb3,Ua8,Qb4,Na4,trivial⟩
def V6(x:V3)(y:V3)(z:V3):ROq:=let y0:=(.tup [.agg [i 0,i 0,i 0,i 0],b false],[]);let t1:=(Z6 x);let t2:=(Z6 y);let t3:=(Z6 z);let t4:=(Z8 y x);let t5:=(Z8 z x);let t6:=(L0 t4 t5);let t7:=(ca9 t6);let t8:=(E9 t7.1 x);(sl (Z7 x) (sl (!t1) (some y0) (sl (Z7 y) (sl (!t2) (some y0) (sl (Z7 z) (sl (!t3) (some y0) (sl (va1 t6) (some (.tup [.agg [i t7.1.x,i t7.1.y,i t7.1.z,i t8],b (decide (t7.2>0))],[])) none)) none)) none)) none)
def v8(x:V3)(y:V3)(z:V3):Pln×Bool:=T9 (two r1P r1B) (V6 x y z)
def P1(x:V3)(y:V3)(z:V3):Bool:=okO (two r1P r1B) (V6 x y z)
def sa2:Sum:=Ab0 (ya5 tV) (ya5 tV) (ya5 tV) (λx y z=>.guard (P1 x y z) (.ret ((two r1P r1B).enc (v8 x y z),[])))
theorem Ja2:c8 prog G 143 sa2:=Ad2 (bd le7 mb6) (two r1P r1B) (o:=V6)
def Qb5:List (Nat×Sum):=[(90,cb3),(68,Na5),(72,Da5),(115,Fa5)]
theorem Mb1:A2 prog G Qb5:=⟨Lb5,Va0,Na4,Ua9,trivial⟩
def la5(x:Pln)(y:V3):ROq:=let t1:=(pa2 x);let t2:=(Z6 y);let t3:=(E9 x.n y);let t4:=(L1 t3 x.b);(sl (pa3 x) (sl (!t1) (some (i 0,[])) (sl (Z7 y) (sl (!t2) (some (i 0,[])) (sl (L2 t3 x.b) (some (i t4,[])) none)) none)) none)
def U5(x:Pln)(y:V3):Int:=T9 (one r1I) (la5 x y)
def U6(x:Pln)(y:V3):Bool:=okO (one r1I) (la5 x y)
def va2:Sum:=va0 (ya5 tP) (ya5 tV) (λx y=>.guard (U6 x y) (.ret ((one r1I).enc (U5 x y),[])))
theorem Ga0:c8 prog G 74 va2:=Lb3 (bd b74 Mb1) (one r1I) (o:=la5)
structure Ga1 where
 (Ka8 Ka9 La0 f7 d9 f9 l9:Int)
def Mb2:List (Nat×Sum):=[(74,va2)]
theorem Ab5:A2 prog G Mb2:=⟨Ga0,trivial⟩
structure Ga2 where
 alt:Nat
 bs0:Bool
def Ga3{α:Type}(kk:Ga2->α)(x:Ga1):α:=let y1:=(⟨x.Ka8,x.Ka9,x.La0⟩:V3);let y0:=(⟨(⟨x.f7,x.d9,x.f9⟩:V3),x.l9⟩:Pln);let t1:=(U5 y0 y1);(sl (U6 y0 y1) (kk ⟨1,t1 != 0⟩) (kk ⟨0,false⟩))
def pa5(x:Ga1):Ga2:=Ga3 (λr=>r) x
def Va2(x:Ga1)(r:Ga2):DT (a7×List a8):=(ab4 r.alt 1 (b r.bs0,[bq 0 4 [[i x.f7,i x.d9,i x.f9,i x.l9]]]) .fail)
def cb5:Sum:=Ma5 ⟨[.agg (kLq 3),sPq 0],[⟨0,4,true,some [kLq 4]⟩],λa H=>(⟨cIq a 0 0,cIq a 0 1,cIq a 0 2,hIq H 0 0 0,hIq H 0 0 1,hIq H 0 0 2,hIq H 0 0 3⟩,())⟩ (λx=>Va2 x (pa5 x))
theorem Mb3:c8 prog G 155 cb5:=P6 (enc:=λx=>⟨[.agg [i x.Ka8,i x.Ka9,i x.La0],.ptr 0 0 0 0],[bq 0 4 [[i x.f7,i x.d9,i x.f9,i x.l9]]]⟩) (λa H=>by kernel_rfl) (bd me1 Ab5) λx=>Da2 (mEq @Ga3 (λr=>(Va2 x r).run) x)
structure R9 where
 j9:List V3
 (f7 d9 f9 l9:Int)
def ea8:List (Nat×Sum):=[(155,cb5)]
theorem Ba4:A2 prog G ea8:=⟨Mb3,trivial⟩
structure A3 where
 j9:List V3
 (is7 f7 d9 f9 l9:Int)
structure j5 where
 is8:Int
def Z9(p:A3)(s:j5):St:=⟨eL tV p.j9::.fn 155 [.ptr 0 0 0 0]::ra 5 (i p.is7::i s.is8::ra 10 []),[bq 0 4 [[i p.f7,i p.d9,i p.f9,i p.l9]]]⟩
def C9{α:Type}(k:j5->α)(e:Nat->α)(z:α)(p:A3)(s:j5):α:=let y0:=(gL tV p.j9 s.is8.toNat);let t1:=(pa5 ⟨y0.x,y0.y,y0.z,p.f7,p.d9,p.f9,p.l9⟩);(sl (decide (s.is8<p.is7)) (sl (inB s.is8 (List.length p.j9)) (sl (Nat.beq t1.alt 1) (sl t1.bs0 (e 1) (k ⟨W (s.is8+1)⟩)) z) z) (e 2))
def s9(p:A3)(s:j5):Stp j5:=C9 .next .exit .fail p s
def O0:Lo A3 j5:=⟨En ea8,1,Wb3,[1,0,1,4,4],[0,1,7,8],.p,[⟨sLq tV::.fn 155 [.o (.ptr 0 0 0 0)]::ru2 5 (sIq::sIq::ru2 10 []),[⟨0,4,true,some [kLq 4]⟩],λa H=>(⟨aLq tV a 0,aIq a 7,hIq H 0 0 0,hIq H 0 0 1,hIq H 0 0 2,hIq H 0 0 3⟩,⟨aIq a 8⟩)⟩],s9,[(none,λp s=>⟨[i s.is8],[bq 0 4 [[i p.f7,i p.d9,i p.f9,i p.l9]]]⟩),(some 0,λp s=>upq (Z9 p s) [(9,b (decide (s.is8<p.is7)))])],Z9⟩
theorem za7:O0.Ok:=Lo.okq [] .nil λp s=>(.ofq @C9)
structure S1 where
 alt:Nat
 is0:Int
def S3{α:Type}(kk:S1->α)(x:R9):α:=let t1:=(lp (s9 (⟨rt tV x.j9,(↑(List.length x.j9):Int),x.f7,x.d9,x.f9,x.l9⟩:A3)) (⟨0⟩:j5));(sl ((cnE tV x.j9)&&true) (sl (Nat.beq t1.1 1) (kk ⟨1,t1.2.is8⟩) (sl (Nat.beq t1.1 2) (kk ⟨1,-1⟩) (kk ⟨0,0⟩))) (kk ⟨0,0⟩))
def I1(x:R9):S1:=S3 (λr=>r) x
def ea9(x:R9)(r:S1):DT (a7×List a8):=(ab4 r.alt 1 (i r.is0,[bq 0 4 [[i x.f7,i x.d9,i x.f9,i x.l9]]]) .fail)
def ia6:Sum:=Ma5 ⟨[sLq tV,.fn 155 [.o (.ptr 0 0 0 0)]],[⟨0,4,true,some [kLq 4]⟩],λa H=>(⟨aLq tV a 0,hIq H 0 0 0,hIq H 0 0 1,hIq H 0 0 2,hIq H 0 0 3⟩,())⟩ (λx=>ea9 x (I1 x))
theorem Ga4:c8 prog G 131 ia6:=P6 (enc:=λx=>⟨[eL tV x.j9,.fn 155 [.ptr 0 0 0 0]],[bq 0 4 [[i x.f7,i x.d9,i x.f9,i x.l9]]]⟩) (λa H=>by kernel_rfl) (bd Yc0 Ba4) λx=>Pa1 (.s .p (.s (.s .p (.b (.u O0.ls))) .p)) [O0.pr] (.cons za7 .nil) (mEq @S3 (λr=>(ea9 x r).run) x)
def va3:List (Nat×Sum):=[(131,ia6)]
theorem sa3:A2 prog G va3:=⟨Ga4,trivial⟩
def M8{α:Type}(kk:Ga2->α)(x:R9):α:=let t1:=(I1 ⟨rt tV x.j9,x.f7,x.d9,x.f9,x.l9⟩);(sl ((cnE tV x.j9)&&true) (sl (Nat.beq t1.alt 1) (kk ⟨1,decide (t1.is0>=0)⟩) (kk ⟨0,false⟩)) (kk ⟨0,false⟩))
def l5(x:R9):Ga2:=M8 (λr=>r) x
def X7(x:R9)(r:Ga2):DT (a7×List a8):=(ab4 r.alt 1 (b r.bs0,[bq 0 4 [[i x.f7,i x.d9,i x.f9,i x.l9]]]) .fail)
def aa0:Sum:=Ma5 ⟨[sLq tV,.fn 155 [.o (.ptr 0 0 0 0)]],[⟨0,4,true,some [kLq 4]⟩],λa H=>(⟨aLq tV a 0,hIq H 0 0 0,hIq H 0 0 1,hIq H 0 0 2,hIq H 0 0 3⟩,())⟩ (λx=>X7 x (l5 x))
theorem va4:c8 prog G 101 aa0:=P6 (enc:=λx=>⟨[eL tV x.j9,.fn 155 [.ptr 0 0 0 0]],[bq 0 4 [[i x.f7,i x.d9,i x.f9,i x.l9]]]⟩) (λa H=>by kernel_rfl) (bd nd9 sa3) λx=>Da2 (mEq @M8 (λr=>(X7 x r).run) x)
@[reducible] noncomputable def S4:Sum:=i7 (En tbN) yd3
theorem V7:c8 prog G 111 S4:=bd ke4 Ab3
def va5:List (Nat×Sum):=[(143,sa2),(101,aa0),(111,S4)]
theorem Qb6:A2 prog G va5:=⟨Ja2,va4,V7,trivial⟩
structure L3 where
 (is3 is4 is9 p8 Ba9 A8 Db7:Int)
 (b7 d8:List V3)
structure w8 where
 D6:Int
def Va3(p:L3)(s:w8):St:=⟨.unk::.ptr 0 0 0 0::.unk::i p.is3::i p.is4::ra 4 (i p.is9::i p.p8::ra 5 (i p.Ba9::i p.A8::ra 5 (i p.Db7::i s.D6::ra 35 (i 0::.unk::.ptr 1 0 0 0::.ptr 2 0 0 0::ra 8 [])))),[bq 0 1 [[eL tV p.b7]],bq 0 1 [[eL tV p.d8]],bq 0 1 [[b false]]]⟩
def ga5{α:Type}(k:w8->α)(e:Nat->α)(z:α)(p:L3)(s:w8):α:=let y0:=(List.length p.b7);let t1:=(v8 (gL tV p.b7 s.D6.toNat) (gL tV p.b7 p.is4.toNat) (gL tV p.b7 p.is3.toNat));let t2:=(l5 ⟨rt tV p.d8,t1.1.n.x,t1.1.n.y,t1.1.n.z,t1.1.b⟩);(sl (decide (s.D6<p.Db7)) (sl (inB s.D6 y0) (sl (inB p.is4 y0) (sl (inB p.is3 y0) (sl (P1 (gL tV p.b7 s.D6.toNat) (gL tV p.b7 p.is4.toNat) (gL tV p.b7 p.is3.toNat)) (sl t1.2 (sl t1.2 (sl ((cnE tV p.d8)&&true) (sl (Nat.beq t2.alt 1) (e 1) z) z) (k ⟨W (s.D6+1)⟩)) (sl t1.2 z (k ⟨W (s.D6+1)⟩))) z) z) z) z) (e 2))
def E0(p:L3)(s:w8):Stp w8:=ga5 .next .exit .fail p s
def Ga5:Lo L3 w8:=⟨En va5,0,Dc9,[1,0,1,4,4,1,4,4,1,1,0,4,1,1,4,4,1,1,0,4,1,1,4,4],[1,3,4,9,10,16,17,23,24,60,62,63],.p,[⟨sUq::sPq 0::sUq::sIq::sIq::ru2 4 (sIq::sIq::ru2 5 (sIq::sIq::ru2 5 (sIq::sIq::ru2 35 (.s (.o (.lit .i64 0))::sUq::sPq 1::sPq 2::ru2 8 [])))),[⟨0,1,true,some [[.c 3 (nL tV)]]⟩,⟨0,1,true,some [[.c 3 (nL tV)]]⟩,⟨0,1,true,some [[.o (.blit false)]]⟩],λa H=>(⟨aIq a 3,aIq a 4,aIq a 9,aIq a 10,aIq a 16,aIq a 17,aIq a 23,hLq tV H 0 0 0,hLq tV H 1 0 0⟩,⟨aIq a 24⟩)⟩],E0,[(none,λp s=>let t1:=(v8 (gL tV p.b7 s.D6.toNat) (gL tV p.b7 p.is4.toNat) (gL tV p.b7 p.is3.toNat));let t2:=(l5 ⟨rt tV p.d8,t1.1.n.x,t1.1.n.y,t1.1.n.z,t1.1.b⟩);⟨.unk::.ptr 0 0 0 0::.unk::i p.is3::i p.is4::i s.D6::.ptr 3 0 0 0::b t1.2::.unk::i p.is9::i p.p8::ra 5 (i p.Ba9::i p.A8::ra 5 (i p.Db7::i s.D6::b (decide (s.D6<p.Db7))::i s.D6::.tup [.agg [i t1.1.n.x,i t1.1.n.y,i t1.1.n.z,i t1.1.b],b t1.2]::eL tV p.b7::i s.D6::.tptr [i (gL tV p.b7 s.D6.toNat).x,i (gL tV p.b7 s.D6.toNat).y,i (gL tV p.b7 s.D6.toNat).z]::.agg [i (gL tV p.b7 s.D6.toNat).x,i (gL tV p.b7 s.D6.toNat).y,i (gL tV p.b7 s.D6.toNat).z]::eL tV p.b7::i p.is4::.tptr [i (gL tV p.b7 p.is4.toNat).x,i (gL tV p.b7 p.is4.toNat).y,i (gL tV p.b7 p.is4.toNat).z]::.agg [i (gL tV p.b7 p.is4.toNat).x,i (gL tV p.b7 p.is4.toNat).y,i (gL tV p.b7 p.is4.toNat).z]::eL tV p.b7::i p.is3::.tptr [i (gL tV p.b7 p.is3.toNat).x,i (gL tV p.b7 p.is3.toNat).y,i (gL tV p.b7 p.is3.toNat).z]::.agg [i (gL tV p.b7 p.is3.toNat).x,i (gL tV p.b7 p.is3.toNat).y,i (gL tV p.b7 p.is3.toNat).z]::.tup [.agg [i t1.1.n.x,i t1.1.n.y,i t1.1.n.z,i t1.1.b],b t1.2]::.agg [i t1.1.n.x,i t1.1.n.y,i t1.1.n.z,i t1.1.b]::b t1.2::b t1.2::b true::.unk::.agg [i t1.1.n.x,i t1.1.n.y,i t1.1.n.z,i t1.1.b]::b false::b true::b true::.unk::u::u::u::u::b true::b true::ra 3 (i 1::.unk::.ptr 1 0 0 0::.ptr 2 0 0 0::ra 8 []))),[bq 0 1 [[eL tV p.b7]],bq 0 1 [[eL tV p.d8]],bq 0 1 [[b (!t2.bs0)]],bq 0 4 [[i t1.1.n.x,i t1.1.n.y,i t1.1.n.z,i t1.1.b]],bq 0 4 [[i t1.1.n.x,i t1.1.n.y,i t1.1.n.z,i t1.1.b]]]⟩),(some 4,λp s=>upq (Va3 p s) [(25,b (decide (s.D6<p.Db7)))])],Va3⟩
theorem Mb4:Ga5.OkM:=Lo.okMq [] .nil λp s=>(.ofq @ga5)
structure Q4 where
 (is3 is9 p8 Ba9:Int)
structure B9 where
 A8:Int
 (b7 d8:List V3)
def Va4(p:Q4)(s:B9):St:=⟨.unk::.ptr 0 0 0 0::.unk::i p.is3::ra 5 (i p.is9::i p.p8::ra 5 (i p.Ba9::i s.A8::ra 42 (i 0::.unk::.ptr 1 0 0 0::.ptr 2 0 0 0::ra 8 []))),[bq 0 1 [[eL tV s.b7]],bq 0 1 [[eL tV s.d8]],bq 0 1 [[b false]]]⟩
def ga6{α:Type}(k:B9->α)(e:Nat->α)(z:α)(p:Q4)(s:B9):α:=let t1:=(lp (E0 (⟨p.is3,s.A8,p.is9,p.p8,p.Ba9,s.A8,(↑(s.A8.toNat-0):Int),rt tV s.b7,rt tV s.d8⟩:L3)) (⟨0⟩:w8));(sl (decide (s.A8<p.Ba9)) (sl (inB s.A8 ((List.length s.b7)+1)) (sl ((cnE tV s.b7)&&((cnE tV s.d8)&&true)) (sl (Nat.beq t1.1 1) (e 1) (sl (Nat.beq t1.1 2) (k ⟨W (s.A8+1),rt tV s.b7,rt tV s.d8⟩) z)) z) z) (e 2))
def H7(p:Q4)(s:B9):Stp B9:=ga6 .next .exit .fail p s
def Ga6:Lo Q4 B9:=⟨En va5,0,Dc9,[1,0,1,4,4,1,4,4,1,1,0,4,1,1,4,4],[1,3,9,10,16,17,60,62,63],.s .p (.s .p (.s (.b (.s .p (.s .p (.b (.u Ga5.lsM))))) .p)),[⟨sUq::sPq 0::sUq::sIq::ru2 5 (sIq::sIq::ru2 5 (sIq::sIq::ru2 42 (.s (.o (.lit .i64 0))::sUq::sPq 1::sPq 2::ru2 8 []))),[⟨0,1,true,some [[.c 3 (nL tV)]]⟩,⟨0,1,true,some [[.c 3 (nL tV)]]⟩,⟨0,1,true,some [[.o (.blit false)]]⟩],λa H=>(⟨aIq a 3,aIq a 9,aIq a 10,aIq a 16⟩,⟨aIq a 17,hLq tV H 0 0 0,hLq tV H 1 0 0⟩)⟩],H7,[(none,λp s=>let t1:=(lp (E0 (⟨p.is3,s.A8,p.is9,p.p8,p.Ba9,s.A8,(↑(s.A8.toNat-0):Int),rt tV s.b7,rt tV s.d8⟩:L3)) (⟨0⟩:w8));let t2:=(v8 (gL tV (rt tV s.b7) t1.2.D6.toNat) (gL tV (rt tV s.b7) s.A8.toNat) (gL tV (rt tV s.b7) p.is3.toNat));let t3:=(l5 ⟨rt tV (rt tV s.d8),t2.1.n.x,t2.1.n.y,t2.1.n.z,t2.1.b⟩);⟨.unk::.ptr 0 0 0 0::.unk::i p.is3::i s.A8::i t1.2.D6::.ptr 3 0 0 0::b t2.2::.unk::i p.is9::i p.p8::ra 5 (i p.Ba9::i s.A8::ra 5 (i (↑(s.A8.toNat-0):Int)::i t1.2.D6::b (decide (t1.2.D6<(↑(s.A8.toNat-0):Int)))::i t1.2.D6::.tup [.agg [i t2.1.n.x,i t2.1.n.y,i t2.1.n.z,i t2.1.b],b t2.2]::eL tV (rt tV s.b7)::i t1.2.D6::.tptr [i (gL tV (rt tV s.b7) t1.2.D6.toNat).x,i (gL tV (rt tV s.b7) t1.2.D6.toNat).y,i (gL tV (rt tV s.b7) t1.2.D6.toNat).z]::.agg [i (gL tV (rt tV s.b7) t1.2.D6.toNat).x,i (gL tV (rt tV s.b7) t1.2.D6.toNat).y,i (gL tV (rt tV s.b7) t1.2.D6.toNat).z]::eL tV (rt tV s.b7)::i s.A8::.tptr [i (gL tV (rt tV s.b7) s.A8.toNat).x,i (gL tV (rt tV s.b7) s.A8.toNat).y,i (gL tV (rt tV s.b7) s.A8.toNat).z]::.agg [i (gL tV (rt tV s.b7) s.A8.toNat).x,i (gL tV (rt tV s.b7) s.A8.toNat).y,i (gL tV (rt tV s.b7) s.A8.toNat).z]::eL tV (rt tV s.b7)::i p.is3::.tptr [i (gL tV (rt tV s.b7) p.is3.toNat).x,i (gL tV (rt tV s.b7) p.is3.toNat).y,i (gL tV (rt tV s.b7) p.is3.toNat).z]::.agg [i (gL tV (rt tV s.b7) p.is3.toNat).x,i (gL tV (rt tV s.b7) p.is3.toNat).y,i (gL tV (rt tV s.b7) p.is3.toNat).z]::.tup [.agg [i t2.1.n.x,i t2.1.n.y,i t2.1.n.z,i t2.1.b],b t2.2]::.agg [i t2.1.n.x,i t2.1.n.y,i t2.1.n.z,i t2.1.b]::b t2.2::b t2.2::b true::.unk::.agg [i t2.1.n.x,i t2.1.n.y,i t2.1.n.z,i t2.1.b]::b false::b true::b true::.unk::u::u::u::u::b true::b true::ra 3 (i 1::.unk::.ptr 1 0 0 0::.ptr 2 0 0 0::ra 8 []))),[bq 0 1 [[eL tV (rt tV s.b7)]],bq 0 1 [[eL tV (rt tV s.d8)]],bq 0 1 [[b (!t3.bs0)]],bq 0 4 [[i t2.1.n.x,i t2.1.n.y,i t2.1.n.z,i t2.1.b]],bq 0 4 [[i t2.1.n.x,i t2.1.n.y,i t2.1.n.z,i t2.1.b]]]⟩),(some 2,λp s=>upq (Va4 p s) [(18,b (decide (s.A8<p.Ba9)))])],Va4⟩
theorem Mb5:Ga6.OkM:=Lo.okMq [Ga5.prM] (.cons Mb4 .nil) λp s=>(.ofq @ga6)
structure G8 where
 p8:Int
 (b7 d8:List V3)
def Va5(p:A0)(s:G8):St:=⟨.unk::.ptr 0 0 0 0::ra 7 (i p.is9::i s.p8::ra 49 (i 0::.unk::.ptr 1 0 0 0::.ptr 2 0 0 0::ra 8 [])),[bq 0 1 [[eL tV s.b7]],bq 0 1 [[eL tV s.d8]],bq 0 1 [[b false]]]⟩
def ga7{α:Type}(k:G8->α)(e:Nat->α)(z:α)(p:A0)(s:G8):α:=let t1:=(lp (H7 (⟨s.p8,p.is9,s.p8,(↑(s.p8.toNat-0):Int)⟩:Q4)) (⟨0,rt tV s.b7,rt tV s.d8⟩:B9));(sl (decide (s.p8<p.is9)) (sl (inB s.p8 ((List.length s.b7)+1)) (sl ((cnE tV s.b7)&&((cnE tV s.d8)&&true)) (sl (Nat.beq t1.1 1) (e 1) (sl (Nat.beq t1.1 2) (k ⟨W (s.p8+1),t1.2.b7,t1.2.d8⟩) z)) z) z) (e 2))
def S5(p:A0)(s:G8):Stp G8:=ga7 .next .exit .fail p s
def Ga7:Lo A0 G8:=⟨En va5,0,Dc9,[1,0,1,4,4,1,4,4],[1,9,10,60,62,63],.s .p (.s .p (.s (.b (.s .p (.s .p (.b (.u Ga6.lsM))))) .p)),[⟨sUq::sPq 0::ru2 7 (sIq::sIq::ru2 49 (.s (.o (.lit .i64 0))::sUq::sPq 1::sPq 2::ru2 8 [])),[⟨0,1,true,some [[.c 3 (nL tV)]]⟩,⟨0,1,true,some [[.c 3 (nL tV)]]⟩,⟨0,1,true,some [[.o (.blit false)]]⟩],λa H=>(⟨aIq a 9⟩,⟨aIq a 10,hLq tV H 0 0 0,hLq tV H 1 0 0⟩)⟩],S5,[(none,λp s=>let t1:=(lp (H7 (⟨s.p8,p.is9,s.p8,(↑(s.p8.toNat-0):Int)⟩:Q4)) (⟨0,rt tV s.b7,rt tV s.d8⟩:B9));let t2:=(lp (E0 (⟨s.p8,t1.2.A8,p.is9,s.p8,(↑(s.p8.toNat-0):Int),t1.2.A8,(↑(t1.2.A8.toNat-0):Int),rt tV t1.2.b7,rt tV t1.2.d8⟩:L3)) (⟨0⟩:w8));let t3:=(v8 (gL tV (rt tV t1.2.b7) t2.2.D6.toNat) (gL tV (rt tV t1.2.b7) t1.2.A8.toNat) (gL tV (rt tV t1.2.b7) s.p8.toNat));let t4:=(l5 ⟨rt tV (rt tV t1.2.d8),t3.1.n.x,t3.1.n.y,t3.1.n.z,t3.1.b⟩);⟨.unk::.ptr 0 0 0 0::.unk::i s.p8::i t1.2.A8::i t2.2.D6::.ptr 3 0 0 0::b t3.2::.unk::i p.is9::i s.p8::ra 5 (i (↑(s.p8.toNat-0):Int)::i t1.2.A8::ra 5 (i (↑(t1.2.A8.toNat-0):Int)::i t2.2.D6::b (decide (t2.2.D6<(↑(t1.2.A8.toNat-0):Int)))::i t2.2.D6::.tup [.agg [i t3.1.n.x,i t3.1.n.y,i t3.1.n.z,i t3.1.b],b t3.2]::eL tV (rt tV t1.2.b7)::i t2.2.D6::.tptr [i (gL tV (rt tV t1.2.b7) t2.2.D6.toNat).x,i (gL tV (rt tV t1.2.b7) t2.2.D6.toNat).y,i (gL tV (rt tV t1.2.b7) t2.2.D6.toNat).z]::.agg [i (gL tV (rt tV t1.2.b7) t2.2.D6.toNat).x,i (gL tV (rt tV t1.2.b7) t2.2.D6.toNat).y,i (gL tV (rt tV t1.2.b7) t2.2.D6.toNat).z]::eL tV (rt tV t1.2.b7)::i t1.2.A8::.tptr [i (gL tV (rt tV t1.2.b7) t1.2.A8.toNat).x,i (gL tV (rt tV t1.2.b7) t1.2.A8.toNat).y,i (gL tV (rt tV t1.2.b7) t1.2.A8.toNat).z]::.agg [i (gL tV (rt tV t1.2.b7) t1.2.A8.toNat).x,i (gL tV (rt tV t1.2.b7) t1.2.A8.toNat).y,i (gL tV (rt tV t1.2.b7) t1.2.A8.toNat).z]::eL tV (rt tV t1.2.b7)::i s.p8::.tptr [i (gL tV (rt tV t1.2.b7) s.p8.toNat).x,i (gL tV (rt tV t1.2.b7) s.p8.toNat).y,i (gL tV (rt tV t1.2.b7) s.p8.toNat).z]::.agg [i (gL tV (rt tV t1.2.b7) s.p8.toNat).x,i (gL tV (rt tV t1.2.b7) s.p8.toNat).y,i (gL tV (rt tV t1.2.b7) s.p8.toNat).z]::.tup [.agg [i t3.1.n.x,i t3.1.n.y,i t3.1.n.z,i t3.1.b],b t3.2]::.agg [i t3.1.n.x,i t3.1.n.y,i t3.1.n.z,i t3.1.b]::b t3.2::b t3.2::b true::.unk::.agg [i t3.1.n.x,i t3.1.n.y,i t3.1.n.z,i t3.1.b]::b false::b true::b true::.unk::u::u::u::u::b true::b true::ra 3 (i 1::.unk::.ptr 1 0 0 0::.ptr 2 0 0 0::ra 8 []))),[bq 0 1 [[eL tV (rt tV t1.2.b7)]],bq 0 1 [[eL tV (rt tV t1.2.d8)]],bq 0 1 [[b (!t4.bs0)]],bq 0 4 [[i t3.1.n.x,i t3.1.n.y,i t3.1.n.z,i t3.1.b]],bq 0 4 [[i t3.1.n.x,i t3.1.n.y,i t3.1.n.z,i t3.1.b]]]⟩),(some 0,λp s=>upq (Va5 p s) [(11,b (decide (s.p8<p.is9)))])],Va5⟩
theorem Mb6:Ga7.OkM:=Lo.okMq [Ga6.prM] (.cons Mb5 .nil) λp s=>(.ofq @ga7)
def qa3(x:List V3):ROq:=let y1:=(↑(List.length x):Int);let t1:=(lp (S5 (⟨y1⟩:A0)) (⟨0,rt tV x,rt tV x⟩:G8));let t2:=(lp (H7 (⟨t1.2.p8,y1,t1.2.p8,(↑(t1.2.p8.toNat-0):Int)⟩:Q4)) (⟨0,rt tV t1.2.b7,rt tV t1.2.d8⟩:B9));let y0:=(rt tV t2.2.b7);let t3:=(lp (E0 (⟨t1.2.p8,t2.2.A8,y1,t1.2.p8,(↑(t1.2.p8.toNat-0):Int),t2.2.A8,(↑(t2.2.A8.toNat-0):Int),y0,rt tV t2.2.d8⟩:L3)) (⟨0⟩:w8));let t4:=(v8 (gL tV y0 t3.2.D6.toNat) (gL tV y0 t2.2.A8.toNat) (gL tV y0 t1.2.p8.toNat));let t5:=(l5 ⟨rt tV (rt tV t2.2.d8),t4.1.n.x,t4.1.n.y,t4.1.n.z,t4.1.b⟩);(sl ((cnE tV x)&&((cnE tV x)&&true)) (sl (Nat.beq t1.1 1) (some (b (!t5.bs0),[])) (sl (Nat.beq t1.1 2) (some (b true,[])) none)) none)
def Da7(x:List V3):Bool:=T9 (one r1B) (qa3 x)
def Da8(x:List V3):Bool:=okO (one r1B) (qa3 x)
def yb2:Sum:=G7 (da6 tV) (λx=>.guard (Da8 x) (.ret ((one r1B).enc (Da7 x),[])))
theorem dc7:c8 prog G 134 yb2:=bc9 (bd le1 Qb6) (one r1B) (o:=qa3) λx=>Lb2 (.s .p (.s (.s .p (.b (.i (.s .p (.b (.u Ga7.lsM)))))) .p)) [Ga7.prM] (.cons Mb6 .nil)
def tb2:List (Nat×Sum):=[(74,va2)]
theorem mb7:A2 prog G tb2:=⟨Ga0,trivial⟩
def sa6{α:Type}(kk:Ga2->α)(x:Ga1):α:=let y1:=(⟨x.Ka8,x.Ka9,x.La0⟩:V3);let y0:=(⟨(⟨x.f7,x.d9,x.f9⟩:V3),x.l9⟩:Pln);let t1:=(U5 y0 y1);(sl (U6 y0 y1) (kk ⟨1,decide (t1>0)⟩) (kk ⟨0,false⟩))
def ga8(x:Ga1):Ga2:=sa6 (λr=>r) x
def Ja3(x:Ga1)(r:Ga2):DT (a7×List a8):=(ab4 r.alt 1 (b r.bs0,[bq 0 4 [[i x.f7,i x.d9,i x.f9,i x.l9]]]) .fail)
def Pa3:Sum:=Ma5 ⟨[.agg (kLq 3),sPq 0],[⟨0,4,true,some [kLq 4]⟩],λa H=>(⟨cIq a 0 0,cIq a 0 1,cIq a 0 2,hIq H 0 0 0,hIq H 0 0 1,hIq H 0 0 2,hIq H 0 0 3⟩,())⟩ (λx=>Ja3 x (ga8 x))
theorem tb3:c8 prog G 145 Pa3:=P6 (enc:=λx=>⟨[.agg [i x.Ka8,i x.Ka9,i x.La0],.ptr 0 0 0 0],[bq 0 4 [[i x.f7,i x.d9,i x.f9,i x.l9]]]⟩) (λa H=>by kernel_rfl) (bd le9 mb7) λx=>Da2 (mEq @sa6 (λr=>(Ja3 x r).run) x)
def fa1:List (Nat×Sum):=[(145,Pa3)]
theorem Ba5:A2 prog G fa1:=⟨tb3,trivial⟩
def aa1(p:A3)(s:j5):St:=⟨eL tV p.j9::.fn 145 [.ptr 0 0 0 0]::ra 5 (i p.is7::i s.is8::ra 10 []),[bq 0 4 [[i p.f7,i p.d9,i p.f9,i p.l9]]]⟩
def D0{α:Type}(k:j5->α)(e:Nat->α)(z:α)(p:A3)(s:j5):α:=let y0:=(gL tV p.j9 s.is8.toNat);let t1:=(ga8 ⟨y0.x,y0.y,y0.z,p.f7,p.d9,p.f9,p.l9⟩);(sl (decide (s.is8<p.is7)) (sl (inB s.is8 (List.length p.j9)) (sl (Nat.beq t1.alt 1) (sl t1.bs0 (e 1) (k ⟨W (s.is8+1)⟩)) z) z) (e 2))
def u7(p:A3)(s:j5):Stp j5:=D0 .next .exit .fail p s
def O1:Lo A3 j5:=⟨En fa1,1,Wb3,[1,0,1,4,4],[0,1,7,8],.p,[⟨sLq tV::.fn 145 [.o (.ptr 0 0 0 0)]::ru2 5 (sIq::sIq::ru2 10 []),[⟨0,4,true,some [kLq 4]⟩],λa H=>(⟨aLq tV a 0,aIq a 7,hIq H 0 0 0,hIq H 0 0 1,hIq H 0 0 2,hIq H 0 0 3⟩,⟨aIq a 8⟩)⟩],u7,[(none,λp s=>⟨[i s.is8],[bq 0 4 [[i p.f7,i p.d9,i p.f9,i p.l9]]]⟩),(some 0,λp s=>upq (aa1 p s) [(9,b (decide (s.is8<p.is7)))])],aa1⟩
theorem za8:O1.Ok:=Lo.okq [] .nil λp s=>(.ofq @D0)
def S8{α:Type}(kk:S1->α)(x:R9):α:=let t1:=(lp (u7 (⟨rt tV x.j9,(↑(List.length x.j9):Int),x.f7,x.d9,x.f9,x.l9⟩:A3)) (⟨0⟩:j5));(sl ((cnE tV x.j9)&&true) (sl (Nat.beq t1.1 1) (kk ⟨1,t1.2.is8⟩) (sl (Nat.beq t1.1 2) (kk ⟨1,-1⟩) (kk ⟨0,0⟩))) (kk ⟨0,0⟩))
def I4(x:R9):S1:=S8 (λr=>r) x
def fa2(x:R9)(r:S1):DT (a7×List a8):=(ab4 r.alt 1 (i r.is0,[bq 0 4 [[i x.f7,i x.d9,i x.f9,i x.l9]]]) .fail)
def ia7:Sum:=Ma5 ⟨[sLq tV,.fn 145 [.o (.ptr 0 0 0 0)]],[⟨0,4,true,some [kLq 4]⟩],λa H=>(⟨aLq tV a 0,hIq H 0 0 0,hIq H 0 0 1,hIq H 0 0 2,hIq H 0 0 3⟩,())⟩ (λx=>fa2 x (I4 x))
theorem Ga8:c8 prog G 131 ia7:=P6 (enc:=λx=>⟨[eL tV x.j9,.fn 145 [.ptr 0 0 0 0]],[bq 0 4 [[i x.f7,i x.d9,i x.f9,i x.l9]]]⟩) (λa H=>by kernel_rfl) (bd Yc0 Ba5) λx=>Pa1 (.s .p (.s (.s .p (.b (.u O1.ls))) .p)) [O1.pr] (.cons za8 .nil) (mEq @S8 (λr=>(fa2 x r).run) x)
def va6:List (Nat×Sum):=[(131,ia7)]
theorem sa7:A2 prog G va6:=⟨Ga8,trivial⟩
def N1{α:Type}(kk:Ga2->α)(x:R9):α:=let t1:=(I4 ⟨rt tV x.j9,x.f7,x.d9,x.f9,x.l9⟩);(sl ((cnE tV x.j9)&&true) (sl (Nat.beq t1.alt 1) (kk ⟨1,decide (t1.is0>=0)⟩) (kk ⟨0,false⟩)) (kk ⟨0,false⟩))
def E1(x:R9):Ga2:=N1 (λr=>r) x
def X8(x:R9)(r:Ga2):DT (a7×List a8):=(ab4 r.alt 1 (b r.bs0,[bq 0 4 [[i x.f7,i x.d9,i x.f9,i x.l9]]]) .fail)
def aa2:Sum:=Ma5 ⟨[sLq tV,.fn 145 [.o (.ptr 0 0 0 0)]],[⟨0,4,true,some [kLq 4]⟩],λa H=>(⟨aLq tV a 0,hIq H 0 0 0,hIq H 0 0 1,hIq H 0 0 2,hIq H 0 0 3⟩,())⟩ (λx=>X8 x (E1 x))
theorem va7:c8 prog G 101 aa2:=P6 (enc:=λx=>⟨[eL tV x.j9,.fn 145 [.ptr 0 0 0 0]],[bq 0 4 [[i x.f7,i x.d9,i x.f9,i x.l9]]]⟩) (λa H=>by kernel_rfl) (bd nd9 sa7) λx=>Da2 (mEq @N1 (λr=>(X8 x r).run) x)
def Mb7:List (Nat×Sum):=[(101,aa2)]
theorem Ab6:A2 prog G Mb7:=⟨va7,trivial⟩
def fa3(x:List V3)(y:Pln):ROq:=let t1:=(E1 ⟨rt tV x,y.n.x,y.n.y,y.n.z,y.b⟩);(sl ((cnE tV x)&&true) (sl (Nat.beq t1.alt 1) (some (b t1.bs0,[])) none) none)
def L4(x:List V3)(y:Pln):Bool:=T9 (one r1B) (fa3 x y)
def L5(x:List V3)(y:Pln):Bool:=okO (one r1B) (fa3 x y)
def cb6:Sum:=va0 (da6 tV) (ya5 tP) (λx y=>.guard (L5 x y) (.ret ((one r1B).enc (L4 x y),[])))
theorem Mb8:c8 prog G 112 cb6:=Lb3 (bd ke5 Ab6) (one r1B) (o:=fa3)
def Ab7:List (Nat×Sum):=[(68,Na5)]
theorem tb4:A2 prog G Ab7:=⟨Va0,trivial⟩
def aa3(x:V3):ROq:=let t1:=(Z6 x);(sl (Z7 x) (some (b (!t1),[])) none)
def la6(x:V3):Bool:=T9 (one r1B) (aa3 x)
def la7(x:V3):Bool:=okO (one r1B) (aa3 x)
def Va6:Sum:=G7 (ya5 tV) (λx=>.guard (la7 x) (.ret ((one r1B).enc (la6 x),[])))
theorem Ab8:c8 prog G 133 Va6:=cb2 (bd le0 tb4) (one r1B) (o:=aa3)
structure S9 where
 j9:List V3
def fa4:List (Nat×Sum):=[(133,Va6)]
theorem Ba6:A2 prog G fa4:=⟨Ab8,trivial⟩
structure A5 where
 j9:List V3
 is7:Int
def aa4(p:A5)(s:j5):St:=⟨eL tV p.j9::.fn 133 []::ra 5 (i p.is7::i s.is8::ra 10 []),[]⟩
def D1{α:Type}(k:j5->α)(e:Nat->α)(z:α)(p:A5)(s:j5):α:=let t1:=(la6 (gL tV p.j9 s.is8.toNat));(sl (decide (s.is8<p.is7)) (sl (inB s.is8 (List.length p.j9)) (sl (la7 (gL tV p.j9 s.is8.toNat)) (sl t1 (e 1) (k ⟨W (s.is8+1)⟩)) z) z) (e 2))
def u9(p:A5)(s:j5):Stp j5:=D1 .next .exit .fail p s
def O2:Lo A5 j5:=⟨En fa4,0,Wb3,[1,0,1,4,4],[0,1,7,8],.p,[⟨sLq tV::.s (.o (.fn 133))::ru2 5 (sIq::sIq::ru2 10 []),[],λa H=>(⟨aLq tV a 0,aIq a 7⟩,⟨aIq a 8⟩)⟩],u9,[(none,λp s=>⟨[i s.is8],[]⟩),(some 0,λp s=>upq (aa4 p s) [(9,b (decide (s.is8<p.is7)))])],aa4⟩
theorem za9:O2.Ok:=Lo.okq [] .nil λp s=>(.ofq @D1)
def T1{α:Type}(kk:S1->α)(x:S9):α:=let t1:=(lp (u9 (⟨rt tV x.j9,(↑(List.length x.j9):Int)⟩:A5)) (⟨0⟩:j5));(sl ((cnE tV x.j9)&&true) (sl (Nat.beq t1.1 1) (kk ⟨1,t1.2.is8⟩) (sl (Nat.beq t1.1 2) (kk ⟨1,-1⟩) (kk ⟨0,0⟩))) (kk ⟨0,0⟩))
def I5(x:S9):S1:=T1 (λr=>r) x
def fa5(x:S9)(r:S1):DT (a7×List a8):=(ab4 r.alt 1 (i r.is0,[]) .fail)
def ia8:Sum:=Ma5 ⟨[sLq tV,.s (.o (.fn 133))],[],λa H=>(⟨aLq tV a 0⟩,())⟩ (λx=>fa5 x (I5 x))
theorem Ga9:c8 prog G 131 ia8:=P6 (enc:=λx=>⟨[eL tV x.j9,.fn 133 []],[]⟩) (λa H=>by kernel_rfl) (bd Yc0 Ba6) λx=>Pa1 (.s .p (.s (.s .p (.b (.u O2.ls))) .p)) [O2.pr] (.cons za9 .nil) (mEq @T1 (λr=>(fa5 x r).run) x)
def va8:List (Nat×Sum):=[(131,ia8)]
theorem sa8:A2 prog G va8:=⟨Ga9,trivial⟩
def N5{α:Type}(kk:Ga2->α)(x:S9):α:=let t1:=(I5 ⟨rt tV x.j9⟩);(sl ((cnE tV x.j9)&&true) (sl (Nat.beq t1.alt 1) (kk ⟨1,decide (t1.is0>=0)⟩) (kk ⟨0,false⟩)) (kk ⟨0,false⟩))
def E2(x:S9):Ga2:=N5 (λr=>r) x
def X9(x:S9)(r:Ga2):DT (a7×List a8):=(ab4 r.alt 1 (b r.bs0,[]) .fail)
def aa5:Sum:=Ma5 ⟨[sLq tV,.s (.o (.fn 133))],[],λa H=>(⟨aLq tV a 0⟩,())⟩ (λx=>X9 x (E2 x))
theorem va9:c8 prog G 101 aa5:=P6 (enc:=λx=>⟨[eL tV x.j9,.fn 133 []],[]⟩) (λa H=>by kernel_rfl) (bd nd9 sa8) λx=>Da2 (mEq @N5 (λr=>(X9 x r).run) x)
def Qb7:List (Nat×Sum):=[(101,aa5),(134,yb2)]
theorem Mb9:A2 prog G Qb7:=⟨va9,dc7,trivial⟩
def la8(x:List V3):ROq:=let t1:=(E2 ⟨rt tV x⟩);let t2:=(Da7 (rt tV x));(sl (decide ((↑(List.length x):Int)>48)) (some (i 2,[])) (sl ((cnE tV x)&&true) (sl (Nat.beq t1.alt 1) (sl t1.bs0 (some (i 3,[])) (sl (okE tV x) (sl (Da8 (rt tV x)) (sl t2 (some (i 11,[])) (some (i 0,[]))) none) none)) none) none))
def da0(x:List V3):Int:=T9 (one r1I) (la8 x)
def da1(x:List V3):Bool:=okO (one r1I) (la8 x)
def wa0:Sum:=G7 (da6 tV) (λx=>.guard (da1 x) (.ret ((one r1I).enc (da0 x),[])))
theorem fa6:c8 prog G 104 wa0:=cb2 (bd je8 Mb9) (one r1I) (o:=la8)
def ga9(x:Int):Bool:=(x != x)
def Pa4:Sum:=G7 cI (λx=>.ret ((one r1B).enc (ga9 x),[]))
theorem tb5:c8 prog G 182 Pa4:=Yc1 (bd me4 Ab3)
def gb5:List (Nat×Sum):=[(182,Pa4)]
theorem ab5:A2 prog G gb5:=⟨tb5,trivial⟩
def P9(x:Int)(y:Int):ROq:=let t1:=(ga9 x);let t2:=(ga9 y);(sl t1 (sl t2 (some (i 0,[])) (some (i (-1),[]))) (sl t2 (some (i 1,[])) (sl (decide (x<y)) (some (i (-1),[])) (sl (decide (x>y)) (some (i 1,[])) (some (i 0,[]))))))
def I6(x:Int)(y:Int):Int:=T9 (one r1I) (P9 x y)
def I7(x:Int)(y:Int):Bool:=okO (one r1I) (P9 x y)
def Da9:Sum:=va0 cI cI (λx y=>.guard (I7 x y) (.ret ((one r1I).enc (I6 x y),[])))
theorem gb6:c8 prog G 159 Da9:=Lb3 (bd me3 ab5) (one r1I) (o:=P9)
structure aa6 where
 Ea7:List Int
 is7:Int
def Pa5(p:aa6)(s:j5):St:=⟨ra 3 (i 0::.unk::.unk::eL tI p.Ea7::i p.is7::i s.is8::ra 9 []),[]⟩
def Ja4{α:Type}(k:j5->α)(e:Nat->α)(z:α)(p:aa6)(s:j5):α:=(sl (decide (s.is8<p.is7)) (sl (inB s.is8 (List.length p.Ea7)) (sl ((gL tI p.Ea7 s.is8.toNat) != 0) (e 1) (k ⟨W (s.is8+1)⟩)) z) (e 2))
def J6(p:aa6)(s:j5):Stp j5:=Ja4 .next .exit .fail p s
def Aa0:Lo aa6 j5:=⟨En tbN,0,zd1,[1,1,0,1,4,4],[3,6,7,8],.p,[⟨ru2 3 (.s (.o (.lit .i64 0))::sUq::sUq::sLq tI::sIq::sIq::ru2 9 []),[],λa H=>(⟨aLq tI a 6,aIq a 7⟩,⟨aIq a 8⟩)⟩],J6,[(none,λp s=>⟨[i (gL tI p.Ea7 s.is8.toNat)],[]⟩),(some 0,λp s=>upq (Pa5 p s) [(9,b (decide (s.is8<p.is7)))])],Pa5⟩
theorem Ab9:Aa0.Ok:=Lo.okq [] .nil λp s=>(.ofq @Ja4)
def la9(x:List Int):ROq:=let t1:=(lp (J6 (⟨rt tI x,(↑(List.length x):Int)⟩:aa6)) (⟨0⟩:j5));(sl ((cnE tI x)&&true) (sl (Nat.beq t1.1 1) (some (i (gL tI (rt tI x) t1.2.is8.toNat),[])) (sl (Nat.beq t1.1 2) (some (i 0,[])) none)) none)
def wa1(x:List Int):Int:=T9 (one r1I) (la9 x)
def wa2(x:List Int):Bool:=okO (one r1I) (la9 x)
def mb8:Sum:=G7 (da6 tI) (λx=>.guard (wa2 x) (.ret ((one r1I).enc (wa1 x),[])))
theorem Qb8:c8 prog G 158 mb8:=bc9 (bd me2 Ab3) (one r1I) (o:=la9) λx=>Pa1 (.s .p (.s .p (.s (.s .p (.b (.u Aa0.ls))) .p))) [Aa0.pr] (.cons Ab9 .nil)
def Bb0:List (Nat×Sum):=[(159,Da9),(158,mb8)]
theorem tb6:A2 prog G Bb0:=⟨gb6,Qb8,trivial⟩
def aa7(x:V3)(y:V3):ROq:=let t1:=(I6 x.x y.x);let t2:=(I6 x.y y.y);let t3:=(I6 x.z y.z);let t4:=(wa1 [t1,t2,t3]);(sl (I7 x.x y.x) (sl (I7 x.y y.y) (sl (I7 x.z y.z) (sl (wa2 [t1,t2,t3]) (some (i t4,[])) none) none) none) none)
def ma0(x:V3)(y:V3):Int:=T9 (one r1I) (aa7 x y)
def ma1(x:V3)(y:V3):Bool:=okO (one r1I) (aa7 x y)
def Aa1:Sum:=va0 (ya5 tV) (ya5 tV) (λx y=>.guard (ma1 x y) (.ret ((one r1I).enc (ma0 x y),[])))
theorem Bb1:c8 prog G 140 Aa1:=Lb3 (bd le5 tb6) (one r1I) (o:=aa7)
end Go.Ev.Ce
namespace Go.Ev.L
open Go Go.Ev
theorem od6(n:Int):W n=(n+9223372036854775808) % 18446744073709551616-9223372036854775808:=IntKind.wrap_i64 n
theorem aa8{n:Int}(h1:-9223372036854775808<=n)(h2:n<=9223372036854775807):W n=n:=by rw[od6];omega
theorem Yc8(n:Int):∃k,W n=n+18446744073709551616*k:=⟨-((n+9223372036854775808) / 18446744073709551616),by rw[od6];omega⟩
theorem tb7(n k:Int):W (n+18446744073709551616*k)=W n:=by rw[od6,od6];omega
theorem Nb0(a b:Int):W (W a+b)=W (a+b):=by
 obtain⟨k,hk⟩:=Yc8 a;rw[hk,show a+18446744073709551616*k+b=a+b+18446744073709551616*k by omega,tb7]
theorem dc8(a b:Int):W (a+W b)=W (a+b):=by rw[Int.add_comm,Nb0,Int.add_comm]
theorem Yc9(a b:Int):W (W a-b)=W (a-b):=by
 obtain⟨k,hk⟩:=Yc8 a;rw[hk,show a+18446744073709551616*k-b=a-b+18446744073709551616*k by omega,tb7]
theorem Zc0(a b:Int):W (a-W b)=W (a-b):=by
 obtain⟨k,hk⟩:=Yc8 b;rw[hk,show a-(b+18446744073709551616*k)=a-b+18446744073709551616*(-k) by omega,tb7]
theorem K7{j n:Nat}(h:j<n)(hn:n<=4611686018427387904):W ((j:Int)+1)=((j+1:Nat):Int):=by
 rw[aa8 (by omega) (by omega)];omega
theorem Nb1{j n:Nat}(h:j<n):decide ((j:Int)<(n:Int))=true:=decide_eq_true (by omega)
theorem mb9{j n:Nat}(h:¬ j<n):decide ((j:Int)<(n:Int))=false:=decide_eq_false (by omega)
theorem o2{j n:Nat}(h:j<n):inB (j:Int) n=true:=by
 show Nat.blt j n=true;rw[Qch];exact h
theorem bt{c:Bool}(h:c=true){α:Type}(t e:α):sl c t e=t:=by rw[h];rfl
theorem bf{c:Bool}(h:c=false){α:Type}(t e:α):sl c t e=e:=by rw[h];rfl
theorem od7{n:Nat}(h:n<=1000000000000):Nat.ble (n*32) room=true:=by
 rw[Nat.ble_eq];unfold room;omega
theorem Zc1{σ:Type}{step:σ->Stp σ}{I:Nat->σ->Prop}{Q:Nat->σ->Prop}(h:∀m s,I m s->(∃t,step s=.exit t/\Q t s)\/∃s' m',m=m'+1/\step s=.next s'/\I m' s') :
  ∀(m n:Nat) (s:σ),m<=n->I m s->Q (lp0 step n s).1 (lp0 step n s).2
 |m,n,s,hn,hi=>by
  rcases h m s hi with⟨t,h1,h2⟩|⟨s',m',rfl,h1,h2⟩
  ·rw[lc0 h1];exact h2
  ·cases n with
   |zero=>omega
   |succ n =>
    rw[kc9 h1];exact Zc1 h m' n s' (by omega) h2
theorem tb8{σ:Type}{step:σ->Stp σ}{I:Nat->σ->Prop}{Q:Nat->σ->Prop}(h:∀m s,I m s->(∃t,step s=.exit t/\Q t s)\/∃s' m',m=m'+1/\step s=.next s'/\I m' s')
  (m:Nat) (s:σ) (hm:m<=18446744073709551615) (hi:I m s):Q (lp step s).1 (lp step s).2:=by
 rw[wd6];exact Zc1 h m rounds s (by unfold rounds;omega) hi
section
variable{σ τ α:Type}{step:σ->Stp σ}
theorem od8{mk:Nat->τ->σ}{f:τ->α->τ}{fin:Nat}(t:Ty α)(l:List α)(I:Nat->τ->Prop)(hl:l.length<=1000000000)
  (h:∀j a,j<l.length->I j a->step (mk j a)=.next (mk (j+1) (f a (gL t l j)))/\I (j+1) (f a (gL t l j)))
  (hf:∀a,I l.length a->step (mk l.length a)=.exit fin) (j0:Nat) (hj:j0<=l.length) (a:τ) (hi:I j0 a) :
  lp step (mk j0 a)=(fin,mk l.length ((l.drop j0).foldl f a))/\I l.length ((l.drop j0).foldl f a):=by
 have key:=tb8 (step:=step) (I:=λm s=>∃j b,m=l.length-j/\j<=l.length/\s=mk j b/\I j b/\(l.drop j).foldl f b=(l.drop j0).foldl f a)
  (Q:=λu s=>u=fin/\s=mk l.length ((l.drop j0).foldl f a)/\I l.length ((l.drop j0).foldl f a)) (λm s ⟨j,b,hm,hj,hs,hb,he⟩=>by
   subst hs;by_cases hlt:j<l.length
   ·obtain⟨h1,h2⟩:=h j b hlt hb;refine .inr ⟨_,l.length-(j+1),by omega,h1,j+1,_,rfl,by omega,rfl,h2,?_⟩
    rw[<- he,Qha hlt,List.foldl_cons];simp[gL,Qda,Qaa hlt]
   ·have:j=l.length:=by omega
    subst this;have he:b=(l.drop j0).foldl f a:=by rw[<- he];simp
    subst he;exact .inl ⟨fin,hf _ hb,rfl,rfl,hb⟩) (l.length-j0) (mk j0 a) (by omega) ⟨j0,a,rfl,hj,rfl,hi,rfl⟩
 exact⟨by rw[<- key.2.1,<- key.1],key.2.2⟩
theorem Id3{mk:Nat->σ}{c:α->Bool}{u fin:Nat}(t:Ty α)(l:List α)(hl:l.length<=1000000000)
  (h:∀j,j<l.length->step (mk j)=sl (c (gL t l j)) (.exit u) (.next (mk (j+1)))) (hf:step (mk l.length)=.exit fin) (j0:Nat) (hj:j0<=l.length) :
  (lp step (mk j0)).1=if (l.drop j0).any c then u else fin :=
 tb8 (step:=step) (I:=λm s=>∃j,m=l.length-j/\j<=l.length/\s=mk j/\(l.drop j).any c=(l.drop j0).any c)
  (Q:=λv _=>v=if (l.drop j0).any c then u else fin) (λm s ⟨j,hm,hj,hs,he⟩=>by
   subst hs;by_cases hlt:j<l.length
   ·have h1:=h j hlt;have e:gL t l j=l[j]:=by simp[gL,Qda,Qaa hlt]
    have e2:(l.drop j).any c=(c l[j]||(l.drop (j+1)).any c):=by rw[Qha hlt,List.any_cons]
    rw[e] at h1;cases hc:c l[j] with
    |true =>
     rw[hc] at h1;refine .inl ⟨u,h1,?_⟩;rw[<- he,e2,hc];rfl
    |false =>
     rw[hc] at h1;refine .inr ⟨_,l.length-(j+1),by omega,h1,j+1,rfl,by omega,rfl,?_⟩
     rw[<- he,e2,hc];rfl
   ·have:j=l.length:=by omega
    subst this;refine .inl ⟨fin,hf,?_⟩;rw[<- he];simp) (l.length-j0) (mk j0) (by omega) ⟨j0,rfl,hj,rfl,rfl⟩
theorem Ea0{mk:Nat->σ}{c:α->Bool}{u fin:Nat}(t:Ty α)(l:List α)(hl:l.length<=1000000000)
  (h:∀j,j<l.length->step (mk j)=sl (c (gL t l j)) (.exit u) (.next (mk (j+1)))) (hf:step (mk l.length)=.exit fin) (j0:Nat) (hj:j0<=l.length) :
  lp step (mk j0)=if (l.drop j0).any c then (u,mk (j0+(l.drop j0).findIdx c)) else (fin,mk l.length):=by
 have key:=tb8 (step:=step) (I:=λm s=>∃j,m=l.length-j/\j<=l.length/\j0<=j/\s=mk j/\(l.drop j).any c=(l.drop j0).any c/\j+(l.drop j).findIdx c=j0+(l.drop j0).findIdx c)
  (Q:=λv s=>(v,s)=if (l.drop j0).any c then (u,mk (j0+(l.drop j0).findIdx c)) else (fin,mk l.length)) (λm s ⟨j,hm,hj,hj0,hs,he,hi⟩=>by
   subst hs;by_cases hlt:j<l.length
   ·have h1:=h j hlt;have e:gL t l j=l[j]:=by simp[gL,Qda,Qaa hlt]
    have e2:(l.drop j).any c=(c l[j]||(l.drop (j+1)).any c):=by rw[Qha hlt,List.any_cons]
    have e3:(l.drop j).findIdx c=if c l[j] then 0 else (l.drop (j+1)).findIdx c+1:=by rw[Qha hlt,List.findIdx_cons];cases c l[j]<;>rfl
    rw[e] at h1;cases hc:c l[j] with
    |true =>
     rw[hc] at h1;refine .inl ⟨u,h1,?_⟩;rw[<- he,e2,hc,<- hi,e3,hc];rfl
    |false =>
     rw[hc] at h1;refine .inr ⟨_,l.length-(j+1),by omega,h1,j+1,rfl,by omega,by omega,rfl,?_,?_⟩
     ·rw[<- he,e2,hc];rfl
     ·rw[<- hi,e3,hc];simp only[Qhc,if_false];omega
   ·have:j=l.length:=by omega
    subst this;refine .inl ⟨fin,hf,?_⟩;rw[<- he];simp) (l.length-j0) (mk j0) (by omega) ⟨j0,rfl,hj,Qac _,rfl,rfl,rfl⟩
 exact key
end
theorem dc9{α:Type}(t:Ty α){l:List α}{j:Nat}(h:j<l.length):gL t l j∈l:=by
 simp[gL,Qda,Qaa h]
theorem nb0{α:Type}(t:Ty α){l:List α}{j:Nat}(h:j<l.length):gL t l j=l[j]:=by
 simp[gL,Qda,Qaa h]
def euF:Nat->Int->Int->Int
 |0,g,_=>g
 |k+1,g,n=>if n=0 then g else euF k n (Int.tmod g n)
def eu(g n:Int):Int:=euF (n.natAbs+1) g n
theorem xa1{g n:Int}(h:n≠0):(Int.tmod g n).natAbs<n.natAbs:=by
 rw[Int.natAbs_tmod];exact Nat.mod_lt _ (by omega)
theorem oc5:∀(k m:Nat) {g n:Int},n.natAbs<k->n.natAbs<m->euF k g n=euF m g n
 |0,_,_,_,h,_=>by omega
 |_+1,0,_,_,_,h=>by omega
 |k+1,m+1,g,n,h1,h2=>by
  unfold euF;by_cases h:n=0
  ·rw[if_pos h,if_pos h]
  ·rw[if_neg h,if_neg h]
   have:=xa1 (g:=g) h
   exact oc5 k m (by omega) (by omega)
theorem nb1(g:Int):eu g 0=g:=by simp[eu,euF]
theorem ec0{g n:Int}(h:n≠0):eu g n=eu n (Int.tmod g n):=by
 have:=xa1 (g:=g) h
 unfold eu
 conv=>lhs;unfold euF
 rw[if_neg h];exact oc5 _ _ (by omega) (by omega)
theorem Id4:∀(k:Nat) (g n:Int),n.natAbs<=k->(eu g n).natAbs=Int.gcd g n:=by
 intro k
 induction k with
 |zero =>
  intro g n h
  have:n=0:=by omega
  subst this;rw[nb1];simp
 |succ k ih =>
  intro g n h;by_cases h0:n=0
  ·subst h0;rw[nb1];simp
  ·have:=xa1 (g:=g) h0
   rw[ec0 h0,ih n (Int.tmod g n) (by omega)]
   unfold Int.gcd;rw[Int.natAbs_tmod,Nat.gcd_comm g.natAbs,Nat.gcd_comm n.natAbs,<- Nat.gcd_rec]
theorem Id5(g n:Int):(eu g n).natAbs=Int.gcd g n:=Id4 _ g n (Qac _)
theorem Mc4:∀(k:Nat) (g n:Int),n.natAbs<=k->0<=g->0<=n->0<=eu g n:=by
 intro k
 induction k with
 |zero =>
  intro g n h hg _
  have:n=0:=by omega
  subst this;rw[nb1];exact hg
 |succ k ih =>
  intro g n h hg hn;by_cases h0:n=0
  ·subst h0;rw[nb1];exact hg
  ·have:=xa1 (g:=g) h0
   rw[ec0 h0];exact ih n _ (by omega) hn (Int.tmod_nonneg _ hg)
theorem Id6{g n:Int}(hg:0<=g)(hn:0<=n):eu g n=(Int.gcd g n:Int):=by
 have h1:=Mc4 _ g n (Qac _) hg hn;have h2:=Id5 g n;omega
section
variable{σ:Type}{step:σ->Stp σ}{mk:Int->Int->σ}
theorem yb3(h:∀g n,0<n->step (mk g n)=.next (mk n (Int.tmod g n)))(h0:∀g,step (mk g 0)=.exit 1)(g n:Int)(hg:0<=g)(h1:0<=n)(hn:n<=9223372036854775808):lp step (mk g n)=(1,mk (eu g n) 0):=by
 have:=tb8 (step:=step) (I:=λm s=>∃a c,s=mk a c/\c.natAbs<=m/\0<=a/\0<=c/\eu a c=eu g n) (Q:=λu s=>(u,s)=(1,mk (eu g n) 0)) (λm s ⟨a,c,hs,hm,ha,hc0,he⟩=>by
  subst hs;by_cases hc:c=0
  ·subst hc;rw[nb1] at he;subst he;exact .inl ⟨1,h0 _,rfl⟩
  ·have ht:=xa1 (g:=a) hc;exact .inr ⟨_,m-1,by omega,h a c (by omega),c,_,rfl,by omega,hc0,Int.tmod_nonneg _ ha,by rw[<- he,ec0 hc]⟩) n.natAbs (mk g n) (by omega) ⟨g,n,rfl,Qac _,hg,h1,rfl⟩
 exact this
end
theorem mb{a c A C:Int}(h1:-A<=a)(h2:a<=A)(h3:-C<=c)(h4:c<=C):-(A*C)<=a*c/\a*c<=A*C:=by
 have hA:a.natAbs<=A.natAbs:=by omega
 have hC:c.natAbs<=C.natAbs:=by omega
 have h5:=Nat.mul_le_mul hA hC;rw[<- Int.natAbs_mul,<- Int.natAbs_mul] at h5;have h6:0<=A*C:=Int.mul_nonneg (by omega) (by omega)
 omega
end Go.Ev.L
namespace Go.Proofs
open Go.Shelf
set_option maxRecDepth 100000 in
def Ce.sortLayV_ren:Go.Shelf.Ren:=⟨fun | 6=>139 | 15=>147 | 14=>157 | 28=>169 | 29=>170 | 20=>174 | 21=>175 | 22=>176 | 23=>177 | 24=>178 | 25=>179 | 26=>180 | 27=>181 | 46=>192 | 47=>184 | 48=>185 | 49=>193 | 50=>194 | 57=>197 | n=>n,fun | 22=>33 | 24=>23 | 25=>83 | 3=>3 | 39=>172 | 0=>0 | 53=>190 | 55=>192 | 4=>4 | 46=>183 | 45=>182 | 50=>187 | 5=>5 | 9=>9 | 66=>199 | 70=>203 | 76=>214 | 77=>215 | n=>n,fun | n=>n⟩
set_option maxRecDepth 100000 in
theorem Ce.sortLayV:Go.Proofs.SlLaysF0.n6 Tryz.prog Ce.sortLayV_ren:={
 mixed:=by kernel_rfl
 f6:=⟨Tryz.f139.name,by decide,Tryz.func139.trans (congrArg some (by kernel_rfl))⟩
 f14:=⟨Tryz.f157.name,by decide,Tryz.func157.trans (congrArg some (by kernel_rfl))⟩
 f15:=Tryz.func147.trans (congrArg some (by kernel_rfl))
 f20:=⟨Tryz.f174.name,by decide,Tryz.func174.trans (congrArg some (by kernel_rfl))⟩
 f21:=⟨Tryz.f175.name,by decide,Tryz.func175.trans (congrArg some (by kernel_rfl))⟩
 f22:=⟨Tryz.f176.name,by decide,Tryz.func176.trans (congrArg some (by kernel_rfl))⟩
 f23:=⟨Tryz.f177.name,by decide,Tryz.func177.trans (congrArg some (by kernel_rfl))⟩
 f24:=⟨Tryz.f178.name,by decide,Tryz.func178.trans (congrArg some (by kernel_rfl))⟩
 f25:=⟨Tryz.f179.name,by decide,Tryz.func179.trans (congrArg some (by kernel_rfl))⟩
 f26:=⟨Tryz.f180.name,by decide,Tryz.func180.trans (congrArg some (by kernel_rfl))⟩
 f27:=⟨Tryz.f181.name,by decide,Tryz.func181.trans (congrArg some (by kernel_rfl))⟩
 f28:=Tryz.func169.trans (congrArg some (by kernel_rfl))
 f29:=Tryz.func170.trans (congrArg some (by kernel_rfl))
 f46:=⟨Tryz.f192.name,by decide,Tryz.func192.trans (congrArg some (by kernel_rfl))⟩
 f47:=Tryz.func184.trans (congrArg some (by kernel_rfl))
 f48:=Tryz.func185.trans (congrArg some (by kernel_rfl))
 f49:=⟨Tryz.f193.name,by decide,Tryz.func193.trans (congrArg some (by kernel_rfl))⟩
 f50:=⟨Tryz.f194.name,by decide,Tryz.func194.trans (congrArg some (by kernel_rfl))⟩
 f57:=⟨Tryz.f197.name,by decide,Tryz.func197.trans (congrArg some (by kernel_rfl))⟩
 t0:=Tryz.underlying0
 a0:=Tryz.isAgg0
 z0:=Tryz.sizeOf0
 v0:=Tryz.zeroValue0
 t3:=Tryz.underlying3
 a3:=Tryz.isAgg3
 z3:=Tryz.sizeOf3
 v3:=Tryz.zeroValue3
 t4:=Tryz.underlying4
 a4:=Tryz.isAgg4
 z4:=Tryz.sizeOf4
 v4:=Tryz.zeroValue4
 t5:=Tryz.underlying5
 a5:=Tryz.isAgg5
 z5:=Tryz.sizeOf5
 v5:=Tryz.zeroValue5
 t9:=Tryz.underlying9
 a9:=Tryz.isAgg9
 z9:=Tryz.sizeOf9
 v9:=Tryz.zeroValue9
 t22:=Tryz.underlying33
 a22:=Tryz.isAgg33
 z22:=Tryz.sizeOf33
 v22:=Tryz.zeroValue33
 t25:=Tryz.underlying83
 a25:=Tryz.isAgg83
 z25:=Tryz.sizeOf83
 v25:=Tryz.zeroValue83
 t39:=Tryz.underlying172
 a39:=Tryz.isAgg172
 z39:=Tryz.sizeOf172
 v39:=Tryz.zeroValue172
 t45:=Tryz.underlying182
 a45:=Tryz.isAgg182
 z45:=Tryz.sizeOf182
 v45:=Tryz.zeroValue182
 t46:=Tryz.underlying183
 a46:=Tryz.isAgg183
 z46:=Tryz.sizeOf183
 v46:=Tryz.zeroValue183
 t50:=Tryz.underlying187
 a50:=Tryz.isAgg187
 z50:=Tryz.sizeOf187
 v50:=Tryz.zeroValue187
 t53:=Tryz.underlying190
 a53:=Tryz.isAgg190
 z53:=Tryz.sizeOf190
 v53:=Tryz.zeroValue190
 t55:=Tryz.underlying192
 a55:=Tryz.isAgg192
 z55:=Tryz.sizeOf192
 v55:=Tryz.zeroValue192
 t66:=Tryz.underlying199
 a66:=Tryz.isAgg199
 z66:=Tryz.sizeOf199
 v66:=Tryz.zeroValue199
 t70:=Tryz.underlying203
 a70:=Tryz.isAgg203
 z70:=Tryz.sizeOf203
 v70:=Tryz.zeroValue203
 t76:=Tryz.underlying214
 a76:=Tryz.isAgg214
 z76:=Tryz.sizeOf214
 v76:=Tryz.zeroValue214
 t77:=Tryz.underlying215
 a77:=Tryz.isAgg215
 z77:=Tryz.sizeOf215
 v77:=Tryz.zeroValue215 }
end Go.Proofs
namespace Go.Ev.Ce
open Go Go.Ev Go.Ev.L Go.Proofs Go.Sort
theorem Ec2(x y:Int):P9 x y=some (i (Fa6 x y),[]):=by
 unfold P9 ga9 Fa6;simp only[bne_self_eq_false,fb9,decide_eq_true_eq,Qhc,if_false]
 split<;>(try split)<;>rfl
theorem Id7(x y:Int):I6 x y=Fa6 x y:=by unfold I6;rw[Ec2];rfl
theorem Id8(x y:Int):I7 x y=true:=by unfold I7;rw[Ec2];rfl
def orI(a c d:Int):Int:=if a=0 then if c=0 then d else c else a
theorem od9(a c d:Int):((lp (J6 ⟨[a,c,d],3⟩) ⟨0⟩).1=1/\gL tI [a,c,d] (lp (J6 ⟨[a,c,d],3⟩) ⟨0⟩).2.is8.toNat=orI a c d)\/((lp (J6 ⟨[a,c,d],3⟩) ⟨0⟩).1=2/\orI a c d=0):=by
 have g0:gL tI [a,c,d] 0=a:=rfl;have g1:gL tI [a,c,d] 1=c:=rfl;have g2:gL tI [a,c,d] 2=d:=rfl;refine tb8 (step:=J6 ⟨[a,c,d],3⟩) (I:=λm s=>(m=3/\s=⟨0⟩)\/(m=2/\s=⟨1⟩/\a=0)\/(m=1/\s=⟨2⟩/\a=0/\c=0)\/(m=0/\s=⟨3⟩/\a=0/\c=0/\d=0))
  (Q:=λt s=>(t=1/\gL tI [a,c,d] s.is8.toNat=orI a c d)\/(t=2/\orI a c d=0)) (λm s hi=>?_) 3 ⟨0⟩ (by omega) (.inl ⟨rfl,rfl⟩)
 rcases hi with⟨rfl,rfl⟩|⟨rfl,rfl,ha⟩|⟨rfl,rfl,ha,hc⟩|⟨rfl,rfl,ha,hc,hd⟩
 ·by_cases h:a=0
  ·exact .inr ⟨⟨1⟩,2,rfl,by subst h;rfl,.inr (.inl ⟨rfl,rfl,h⟩)⟩
  ·refine .inl ⟨1,?_,.inl ⟨rfl,by unfold orI;rw[if_neg h];rfl⟩⟩
   show sl (a != 0) (Stp.exit 1) (Stp.next (⟨W (0+1)⟩:j5))=_;rw[bt (by simpa using h)]
 ·by_cases h:c=0
  ·exact .inr ⟨⟨2⟩,1,rfl,by subst h;rfl,.inr (.inr (.inl ⟨rfl,rfl,ha,h⟩))⟩
  ·refine .inl ⟨1,?_,.inl ⟨rfl,by unfold orI;rw[if_pos ha,if_neg h];rfl⟩⟩
   show sl (c != 0) (Stp.exit 1) (Stp.next (⟨W (1+1)⟩:j5))=_;rw[bt (by simpa using h)]
 ·by_cases h:d=0
  ·exact .inr ⟨⟨3⟩,0,rfl,by subst h;rfl,.inr (.inr (.inr ⟨rfl,rfl,ha,hc,h⟩))⟩
  ·refine .inl ⟨1,?_,.inl ⟨rfl,by unfold orI;rw[if_pos ha,if_pos hc];rfl⟩⟩
   show sl (d != 0) (Stp.exit 1) (Stp.next (⟨W (2+1)⟩:j5))=_;rw[bt (by simpa using h)]
 ·exact .inl ⟨2,rfl,.inr ⟨rfl,by unfold orI;rw[if_pos ha,if_pos hc];exact hd⟩⟩
theorem Ad5(a c d:Int):la9 [a,c,d]=some (i (orI a c d),[]):=by
 have h:=od9 a c d;unfold la9;simp only[r7,p9];rw[show ((([a,c,d]:List Int).length:Nat):Int)=3 from rfl]
 generalize lp (J6 ⟨[a,c,d],3⟩) ⟨0⟩=r at *
 rcases h with⟨h1,h2⟩|⟨h1,h2⟩
 ·rw[h1,h2];rfl
 ·rw[h1,h2];rfl
theorem ne7(a c d:Int):wa1 [a,c,d]=orI a c d:=by unfold wa1;rw[Ad5];rfl
theorem ne8(a c d:Int):wa2 [a,c,d]=true:=by unfold wa2;rw[Ad5];rfl
def Ha0(x y:V3):Int:=orI (Fa6 x.x y.x) (Fa6 x.y y.y) (Fa6 x.z y.z)
def LtV(x y:V3):Prop:=x.x<y.x\/x.x=y.x/\(x.y<y.y\/x.y=y.y/\x.z<y.z)
instance(x y:V3):Decidable (LtV x y):=by unfold LtV;exact inferInstance
theorem pd0(x y:V3):Ha0 x y<0↔LtV x y:=by
 have h1:=Na6 x.x y.x;have h2:=mb1 x.x y.x;have h3:=Na6 x.y y.y;have h4:=mb1 x.y y.y;have h5:=Na6 x.z y.z;unfold Ha0 orI LtV;split
 ·split<;>omega
 ·omega
theorem ia9(x y:V3):ltOf Ha0 x y=decide (LtV x y):=by
 unfold ltOf;rw[decide_eq_decide];exact pd0 x y
theorem be0:SWO (ltOf Ha0) where
 irrefl x:=by rw[ia9];simp[LtV]
 trans x y z h1 h2:=by rw[ia9,decide_eq_true_eq] at *;unfold LtV at *;omega
 ntrans x y z h1 h2:=by rw[ia9,decide_eq_false_iff_not] at *;unfold LtV at *;omega
theorem ne9(x y:V3)(h1:ltOf Ha0 x y=false)(h2:ltOf Ha0 y x=false):x=y:=by
 rw[ia9,decide_eq_false_iff_not] at *
 unfold LtV at *
 obtain⟨a,b,c⟩:=x;obtain⟨a',b',c'⟩:=y
 simp only at *
 have:a=a'/\b=b'/\c=c':=by omega
 obtain⟨rfl,rfl,rfl⟩:=this;rfl
theorem yb4(x y:V3):aa7 x y=some (i (Ha0 x y),[]):=by
 unfold aa7 Ha0;simp only[Id7,Id8,ne7,ne8,D9]
theorem Id9(x y:V3):ma0 x y=Ha0 x y:=by unfold ma0;rw[yb4];rfl
theorem Jd0(x y:V3):ma1 x y=true:=by unfold ma1;rw[yb4];rfl
theorem Jd1(x y:V3):(Aa1 [.agg (tV.row x),.agg (tV.row y)] []).run=some (i (Ha0 x y),[]):=by
 have:(Aa1 [.agg (tV.row x),.agg (tV.row y)] []).run=sel (ma1 x y) (some (i (ma0 x y),[])) none:=by kernel_rfl
 rw[this,Jd0,Id9]
def Zc2(p:V3):List Value:=[.int .i64 p.x,.int .i64 p.y,.int .i64 p.z]
instance:Inhabited V3:=⟨⟨0,0,0⟩⟩
def Pa6(l:List V3):List V3:=l.mergeSort λx y=>!ltOf Ha0 y x
theorem Wb5(l:List V3):(Pa6 l).length=l.length:=Qhb l
def X3:Sum:=Cc7 tV 140 23 Pa6
theorem Mc5:Ce.sortLayV_ren.f 6=139:=by kernel_rfl
theorem Nb2:Ce.sortLayV_ren.t 24=23:=by kernel_rfl
set_option maxRecDepth 100000 in
theorem ma2:c8 prog G 139 X3:=by
 refine Cc8 (enc:=Zc2) (cf:=Ha0) ⟨_,Tryz.func139,by kernel_rfl,of_decide_eq_true (by kernel_rfl)⟩ (by decide) (λ_=>rfl) (λr h=>xa2 (n:=3) h) (λx v hv=>?_) Wb5
  (λblk off size w=>Cc6 Bb1 Jd1 (λ_=>rfl) (λ_=>rfl) _ _ _ _ _) (λblk cap d w hcl hH hb hs=>?_)
 ·simp[Zc2] at hv
  rcases hv with rfl|rfl|rfl<;>rfl
 ·have eg:∀args w,(callFunc 140 args).run Tryz.prog w=.ok (.enter 140 args) w:=enters_of Tryz.func140 (by kernel_rfl) rfl
  have:=AnyQ.slices_SortFunc Ce.sortLayV 3 (by rw[Nb2];exact Tryz.isAgg23) (by rw[Nb2];exact Tryz.sizeOf23) Zc2 (λ_=>rfl) (λx v hv=>by simp[Zc2] at hv;rcases hv with rfl | rfl | rfl<;>rfl) Ha0 be0 140 #[] blk 0 cap d w eg (hcl 0 d.size) hH hb hs
  rw[Mc5] at this;refine this.mono λe w' ⟨h1,d',n,os,h2,h3,h4⟩=>⟨h1,n,os,?_⟩
  have h5:=sorted_unique_holds be0 ne9 d d' h2 h3;rw[h4];show _=sortWorldK Zc2 3 w blk 0 n (d.toList.mergeSort λx y=>!ltOf Ha0 y x).toArray os
  rw[<- h5]
end Go.Ev.Ce
namespace Go.Ev.Ce
open Go Go.Ev Go.Ev.L Go.Proofs
set_option maxRecDepth 100000
structure ha9 where
 (alt ns0:Nat)
 eh0:List (List a7)
def ia0{α:Type}(kk:ha9->α)(x:V3×List V3):α:=let y0:=(List.range (List.length x.2+1));(sl (Nat.beq 0 0&&Nat.ble ((0+(len (i9 (λk=>(tV).row (gL tV (x.1::x.2) k)) y0)))*24) room) (kk ⟨1,(0+(len (i9 (λk=>(tV).row (gL tV (x.1::x.2) k)) y0))),(app [] (i9 (λk=>(tV).row (gL tV (x.1::x.2) k)) y0))⟩) (kk ⟨0,0,[]⟩))
def N6(x:V3×List V3):ha9:=ia0 (λr=>r) x
def ua4(r:ha9):DT (a7×List a8):=(ab4 r.alt 1 (.sl 0 0 r.ns0 0,[bq 23 3 r.eh0]) .fail)
def ia1:Sum:=G7 (lc5 tV) (λx=>ua4 (N6 x))
theorem ua5:c8 prog G 138 ia1:=Ya4 (bd le4 Ab3) λx=>Da2 (mEq @ia0 (λr=>(ua4 r).run) x)
structure aa9 where
 ns0:Nat
 eh0:List (List a7)
structure q7 where
 (ns0 os4 ns4:Nat)
structure l0 where
 (is3 is5:Int)
 eh0:List (List a7)
def ja0(p:q7)(s:l0):St:=⟨.sl 0 0 p.ns0 0::.unk::.unk::i s.is3::.sl 0 p.os4 p.ns4 0::i s.is5::ra 55 [],[bq 23 3 s.eh0]⟩
def G9{α:Type}(k:l0->α)(e:Nat->α)(z:α)(p:q7)(s:l0):α:=let y2:=(p.os4+s.is5.toNat);let y1:=(rdR tV s.eh0 (p.os4+(W (s.is5-1)).toNat));let y0:=(rdR tV s.eh0 y2);(sl (decide (s.is5<(↑p.ns4:Int))) (sl (inB s.is5 p.ns4) (sl (ldR tV s.eh0 y2) (sl (inB (W (s.is5-1)) p.ns4) (sl (ldR tV s.eh0 (p.os4+(W (s.is5-1)).toNat)) (sl (!((y0.x==y1.x)&&((y0.y==y1.y)&&((y0.z==y1.z)&&true)))) (sl (inB s.is5 p.ns4) (sl (ldR tV s.eh0 y2) (sl (inB s.is3 p.ns0) (sl ((Nat.blt (0+s.is3.toNat) (len s.eh0))&&(Nat.ble (0+3) (len (k8 s.eh0 (0+s.is3.toNat))))) (k ⟨W (s.is3+1),W (s.is5+1),setAt s.eh0 (0+s.is3.toNat) (Q9 (k8 s.eh0 (0+s.is3.toNat)) 0 [i y0.x,i y0.y,i y0.z])⟩) z) z) z) z) (k ⟨s.is3,W (s.is5+1),s.eh0⟩)) z) z) z) z) (e 1))
def l7(p:q7)(s:l0):Stp l0:=G9 .next .exit .fail p s
def U7:Lo q7 l0:=⟨En tbN,1,Xc8,[1,1,0,1,4,4,1,0,4,1,2,1,0,1,4,4],[0,3,4,5],.p,[⟨.s (.o (.sl 0 0 (some 0) none))::sUq::sUq::sIq::.s (.o (.sl 0 0 none none))::sIq::ru2 55 [],[⟨23,3,true,none⟩],λa H=>(⟨slN (slT a 0),slO (slT a 4),slN (slT a 4)⟩,⟨aIq a 3,aIq a 5,elT H 0⟩)⟩],l7,[(some 2,λp s=>upq (ja0 p s) [(29,i s.is5),(30,.sl 0 p.os4 p.ns4 0),(31,i (↑p.ns4:Int)),(32,b (decide (s.is5<(↑p.ns4:Int))))])],ja0⟩
theorem Ja5:U7.Ok:=Lo.okq [] .nil λp s=>(.ofq @G9)
structure n5 where
 is3:Int
def ja1(p:aa9)(s:n5):St:=⟨.sl 0 0 p.ns0 0::.unk::.unk::i s.is3::ra 57 [],[bq 23 3 p.eh0]⟩
def H4{α:Type}(k:n5->α)(e:Nat->α)(z:α)(p:aa9)(s:n5):α:=let y1:=(rdR tV p.eh0 (0+s.is3.toNat));let y0:=(rdR tV p.eh0 (0+(W (s.is3-1)).toNat));let t1:=(lp (l7 (⟨p.ns0,0+s.is3.toNat,p.ns0-s.is3.toNat⟩:q7)) (⟨s.is3,1,p.eh0⟩:l0));(sl (decide (s.is3<(↑p.ns0:Int))) (sl (inB s.is3 p.ns0) (sl (ldR tV p.eh0 (0+s.is3.toNat)) (sl (inB (W (s.is3-1)) p.ns0) (sl (ldR tV p.eh0 (0+(W (s.is3-1)).toNat)) (sl ((y1.x==y0.x)&&((y1.y==y0.y)&&((y1.z==y0.z)&&true))) (sl (inB s.is3 (p.ns0+1)) (sl (Nat.beq t1.1 1) (sl (inB t1.2.is3 (p.ns0+1)) (sl (inB t1.2.is3 (p.ns0+1)) (e 1) z) z) z) z) (k ⟨W (s.is3+1)⟩)) z) z) z) z) (e 2))
def C5(p:aa9)(s:n5):Stp n5:=H4 .next .exit .fail p s
def U8:Lo aa9 n5:=⟨En tbN,1,Xc8,[1,1,0,1,4,4],[0,3],.s .p (.s (.b (.s .p (.c (.s .p (.s (.s .p (.b (.u U7.ls))) .p)) .p))) .p),[⟨.s (.o (.sl 0 0 (some 0) none))::sUq::sUq::sIq::ru2 57 [],[⟨23,3,true,none⟩],λa H=>(⟨slN (slT a 0),elT H 0⟩,⟨aIq a 3⟩)⟩],C5,[(none,λp s=>let t1:=(lp (l7 (⟨p.ns0,0+s.is3.toNat,p.ns0-s.is3.toNat⟩:q7)) (⟨s.is3,1,p.eh0⟩:l0));⟨[.sl 0 0 (t1.2.is3.toNat-0) 0],[bq 23 3 (app (q9 t1.2.eh0 (0+t1.2.is3.toNat)) (app (List.replicate (p.ns0-t1.2.is3.toNat) [i 0,i 0,i 0]) (g8 t1.2.eh0 ((0+t1.2.is3.toNat)+(p.ns0-t1.2.is3.toNat)))))]⟩),(some 0,λp s=>upq (ja1 p s) [(10,i s.is3),(11,.sl 0 0 p.ns0 0),(12,i (↑p.ns0:Int)),(13,b (decide (s.is3<(↑p.ns0:Int))))])],ja1⟩
theorem Ja6:U8.Ok:=Lo.okq [U7.pr] (.cons Ja5 .nil) λp s=>(.ofq @H4)
def ba1{α:Type}(kk:ha9->α)(x:aa9):α:=let t1:=(lp (C5 (⟨x.ns0,x.eh0⟩:aa9)) (⟨1⟩:n5));let t2:=(lp (l7 (⟨x.ns0,0+t1.2.is3.toNat,x.ns0-t1.2.is3.toNat⟩:q7)) (⟨t1.2.is3,1,x.eh0⟩:l0));(sl (decide ((↑x.ns0:Int)<2)) (kk ⟨1,x.ns0,x.eh0⟩) (sl (Nat.beq t1.1 1) (kk ⟨1,t2.2.is3.toNat-0,app (q9 t2.2.eh0 (0+t2.2.is3.toNat)) (app (List.replicate (x.ns0-t2.2.is3.toNat) [i 0,i 0,i 0]) (g8 t2.2.eh0 ((0+t2.2.is3.toNat)+(x.ns0-t2.2.is3.toNat))))⟩) (sl (Nat.beq t1.1 2) (kk ⟨1,x.ns0,x.eh0⟩) (kk ⟨0,0,[]⟩))))
def C6(x:aa9):ha9:=ba1 (λr=>r) x
def ma4(x:aa9)(r:ha9):DT (a7×List a8):=(ab4 r.alt 1 (.sl 0 0 r.ns0 0,[bq 23 3 r.eh0]) .fail)
def ba2:Sum:=Ma5 ⟨[.s (.o (.sl 0 0 (some 0) none))],[⟨23,3,true,none⟩],λa H=>(⟨slN (slT a 0),elT H 0⟩,())⟩ (λx=>ma4 x (C6 x))
theorem ma5:c8 prog G 141 ba2:=P6 (enc:=λx=>⟨[.sl 0 0 x.ns0 0],[bq 23 3 x.eh0]⟩) (λa H=>by kernel_rfl) (bd le6 Ab3) λx=>Pa1 (.s .p (.s .p (.s (.s .p (.b (.u U8.ls))) .p))) [U8.pr] (.cons Ja6 .nil) (mEq @ba1 (λr=>(ma4 x r).run) x)
def tb9:List (Nat×Sum):=[(138,ia1),(139,X3),(141,ba2)]
theorem nb2:A2 prog G tb9:=⟨ua5,ma2,ma5,trivial⟩
def V8(x:V3×List V3):ROq:=let t1:=(N6 (hC tV (λk=>(tV).row (gL tV (x.1::x.2) k)),tC tV (List.length x.2) (λk=>(tV).row (gL tV (x.1::x.2) k))));let t2:=(C6 ⟨t1.ns0,app (bL tV (Pa6 (slR tV t1.eh0 0 t1.ns0))) (g8 t1.eh0 t1.ns0)⟩);(sl (okL tV (List.length x.2+1) (λk=>(tV).row (gL tV (x.1::x.2) k))) (sl (Nat.beq t1.alt 1) (sl (Bool.and (Nat.ble t1.ns0 room) (Bool.and (Nat.ble t1.ns0 (len t1.eh0)) (okS tV t1.eh0 0 t1.ns0))) (sl (Nat.beq t2.alt 1) (some (.sl 0 0 t2.ns0 0,[bq 23 3 t2.eh0])) none) none) none) none)
def sa9(x:V3×List V3):List V3:=T9 (one (r1L tV)) (V8 x)
def ta0(x:V3×List V3):Bool:=okO (one (r1L tV)) (V8 x)
def Pa7:Sum:=G7 (lc5 tV) (λx=>.guard (ta0 x) (.ret ((one (r1L tV)).enc (sa9 x),[])))
theorem ub0:c8 prog G 110 Pa7:=cb2 (bd Zd8 nb2) (one (r1L tV)) (o:=V8)
def pa6:List (Nat×Sum):=[(104,wa0),(110,Pa7),(143,sa2),(144,mb4),(112,cb6),(113,ia5),(111,S4)]
theorem Nb3:A2 prog G pa6:=⟨fa6,ub0,Ja2,Qb2,Mb8,Fa8,V7,trivial⟩
structure o8 where
 ph:Nat
 D6:Int
 eh4:List (List a7)
 p5:Nat
 eh5:List (List a7)
def Ja7(p:L3)(s:o8):St:=⟨.unk::.ptr 0 0 0 0::.unk::i p.is3::i p.is4::ra 4 (i p.is9::i p.p8::ra 5 (i p.Ba9::i p.A8::ra 5 (i p.Db7::i s.D6::ra 35 (i 0::.unk::.ptr 1 0 0 0::nlq::i 0::.unk::.ptr 2 0 0 0::.ptr 3 0 0 0::ra 28 [])))),[bq 0 1 [[eL tV p.b7]],bq 0 1 [[eL tV p.d8]],bq 0 0 [[.ptr 4 0 0 0]],bq 0 0 [[nlq]],bq 141 0 s.eh4]⟩
def Ja8(p:L3)(s:o8):St:=⟨.unk::.ptr 0 0 0 0::.unk::i p.is3::i p.is4::ra 4 (i p.is9::i p.p8::ra 5 (i p.Ba9::i p.A8::ra 5 (i p.Db7::i s.D6::ra 35 (i 0::.unk::.ptr 1 0 0 0::nlq::i 0::.unk::.ptr 2 0 0 0::.ptr 3 0 0 0::ra 28 [])))),[bq 0 1 [[eL tV p.b7]],bq 0 1 [[eL tV p.d8]],bq 0 0 [[.ptr 4 0 0 0]],bq 0 0 [[.sl 5 0 s.p5 0]],bq 141 0 s.eh4,bq 66 4 s.eh5]⟩
def Bb2(p:L3)(s:o8):St:=(sel (Nat.beq s.ph 1) (Ja8 p s) (Ja7 p s))
def L7{α:Type}(k:o8->α)(e:Nat->α)(z:α)(p:L3)(s:o8):α:=let y7:=(List.length p.b7);let y6:=(okE tV p.d8);let y5:=(rt tV p.d8);let y3:=(W (s.D6+1));let t1:=(v8 (gL tV p.b7 s.D6.toNat) (gL tV p.b7 p.is4.toNat) (gL tV p.b7 p.is3.toNat));let y0:=(ra4 [(0,.int .i64),(1,.int .i64),(2,.int .i64),(3,.int .i64)] [i t1.1.n.x,i t1.1.n.y,i t1.1.n.z,i t1.1.b] [i t1.1.n.x,i t1.1.n.y,i t1.1.n.z,i t1.1.b,b true] s.eh4);let t2:=(ca8 t1.1);let y8:=(L5 y5 t2);let y4:=(Ha7 4 [(0,.int .i64),(1,.int .i64),(2,.int .i64),(3,.int .i64)] [i t2.n.x,i t2.n.y,i t2.n.z,i t2.b] y0);let y2:=(ra4 [(0,.int .i64),(1,.int .i64),(2,.int .i64),(3,.int .i64)] [i t2.n.x,i t2.n.y,i t2.n.z,i t2.b] [i t2.n.x,i t2.n.y,i t2.n.z,i t2.b,b true] s.eh4);let y1:=(ra4 [(0,.int .i64),(1,.int .i64),(2,.int .i64),(3,.int .i64)] [i t2.n.x,i t2.n.y,i t2.n.z,i t2.b] [i t2.n.x,i t2.n.y,i t2.n.z,i t2.b,b true] y0);let t3:=(L4 y5 t2);let t4:=(L4 y5 t1.1);(sl (decide (s.D6<p.Db7)) (sl (inB s.D6 y7) (sl (inB p.is4 y7) (sl (inB p.is3 y7) (sl (P1 (gL tV p.b7 s.D6.toNat) (gL tV p.b7 p.is4.toNat) (gL tV p.b7 p.is3.toNat)) (sl t1.2 (sl t1.2 (sl (Ha7 4 [(0,.int .i64),(1,.int .i64),(2,.int .i64),(3,.int .i64)] [i t1.1.n.x,i t1.1.n.y,i t1.1.n.z,i t1.1.b] s.eh4) (sl (Ha7 4 [(0,.int .i64),(1,.int .i64),(2,.int .i64),(3,.int .i64)] [i t2.n.x,i t2.n.y,i t2.n.z,i t2.b] s.eh4) (k ⟨0,y3,s.eh4,0,[]⟩) (sl y6 (sl y8 (sl (!t3) (k ⟨1,y3,y2,1,[[i t2.n.x,i t2.n.y,i t2.n.z,i t2.b]]⟩) (k ⟨0,y3,y2,0,[]⟩)) z) z)) (sl y6 (sl (L5 y5 t1.1) (sl (!t4) (sl y4 (k ⟨1,y3,y0,1,[[i t1.1.n.x,i t1.1.n.y,i t1.1.n.z,i t1.1.b]]⟩) (sl y6 (sl y8 (sl (!t3) (k ⟨1,y3,y1,2,[[i t1.1.n.x,i t1.1.n.y,i t1.1.n.z,i t1.1.b],[i t2.n.x,i t2.n.y,i t2.n.z,i t2.b]]⟩) (k ⟨1,y3,y1,1,[[i t1.1.n.x,i t1.1.n.y,i t1.1.n.z,i t1.1.b]]⟩)) z) z)) (sl y4 (k ⟨0,y3,y0,0,[]⟩) (sl y6 (sl y8 (sl (!t3) (k ⟨1,y3,y1,1,[[i t2.n.x,i t2.n.y,i t2.n.z,i t2.b]]⟩) (k ⟨0,y3,y1,0,[]⟩)) z) z))) z) z)) (k ⟨0,y3,s.eh4,0,[]⟩)) (sl t1.2 z (k ⟨0,y3,s.eh4,0,[]⟩))) z) z) z) z) (e 1))
def L8{α:Type}(k:o8->α)(e:Nat->α)(z:α)(p:L3)(s:o8):α:=let y9:=(List.length p.b7);let y8:=(okE tV p.d8);let y6:=(rt tV p.d8);let y4:=(W (s.D6+1));let t1:=(v8 (gL tV p.b7 s.D6.toNat) (gL tV p.b7 p.is4.toNat) (gL tV p.b7 p.is3.toNat));let y2:=(app s.eh5 [[i t1.1.n.x,i t1.1.n.y,i t1.1.n.z,i t1.1.b]]);let y0:=(ra4 [(0,.int .i64),(1,.int .i64),(2,.int .i64),(3,.int .i64)] [i t1.1.n.x,i t1.1.n.y,i t1.1.n.z,i t1.1.b] [i t1.1.n.x,i t1.1.n.y,i t1.1.n.z,i t1.1.b,b true] s.eh4);let t2:=(ca8 t1.1);let y10:=(L5 y6 t2);let y7:=(app s.eh5 [[i t2.n.x,i t2.n.y,i t2.n.z,i t2.b]]);let y5:=(Ha7 4 [(0,.int .i64),(1,.int .i64),(2,.int .i64),(3,.int .i64)] [i t2.n.x,i t2.n.y,i t2.n.z,i t2.b] y0);let y3:=(ra4 [(0,.int .i64),(1,.int .i64),(2,.int .i64),(3,.int .i64)] [i t2.n.x,i t2.n.y,i t2.n.z,i t2.b] [i t2.n.x,i t2.n.y,i t2.n.z,i t2.b,b true] s.eh4);let y1:=(ra4 [(0,.int .i64),(1,.int .i64),(2,.int .i64),(3,.int .i64)] [i t2.n.x,i t2.n.y,i t2.n.z,i t2.b] [i t2.n.x,i t2.n.y,i t2.n.z,i t2.b,b true] y0);let t3:=(L4 y6 t2);let t4:=(L4 y6 t1.1);let a0:=(Nat.beq s.p5 (len s.eh5)&&Nat.ble ((s.p5+1)*32) room);(sl (decide (s.D6<p.Db7)) (sl (inB s.D6 y9) (sl (inB p.is4 y9) (sl (inB p.is3 y9) (sl (P1 (gL tV p.b7 s.D6.toNat) (gL tV p.b7 p.is4.toNat) (gL tV p.b7 p.is3.toNat)) (sl t1.2 (sl t1.2 (sl (Ha7 4 [(0,.int .i64),(1,.int .i64),(2,.int .i64),(3,.int .i64)] [i t1.1.n.x,i t1.1.n.y,i t1.1.n.z,i t1.1.b] s.eh4) (sl (Ha7 4 [(0,.int .i64),(1,.int .i64),(2,.int .i64),(3,.int .i64)] [i t2.n.x,i t2.n.y,i t2.n.z,i t2.b] s.eh4) (k ⟨1,y4,s.eh4,s.p5,s.eh5⟩) (sl y8 (sl y10 (sl (!t3) (sl a0 (k ⟨1,y4,y3,s.p5+1,y7⟩) z) (k ⟨1,y4,y3,s.p5,s.eh5⟩)) z) z)) (sl y8 (sl (L5 y6 t1.1) (sl (!t4) (sl a0 (sl y5 (k ⟨1,y4,y0,s.p5+1,y2⟩) (sl y8 (sl y10 (sl (!t3) (sl (Nat.beq (s.p5+1) (len y2)&&Nat.ble (((s.p5+1)+1)*32) room) (k ⟨1,y4,y1,(s.p5+1)+1,app y2 [[i t2.n.x,i t2.n.y,i t2.n.z,i t2.b]]⟩) z) (k ⟨1,y4,y1,s.p5+1,y2⟩)) z) z)) z) (sl y5 (k ⟨1,y4,y0,s.p5,s.eh5⟩) (sl y8 (sl y10 (sl (!t3) (sl a0 (k ⟨1,y4,y1,s.p5+1,y7⟩) z) (k ⟨1,y4,y1,s.p5,s.eh5⟩)) z) z))) z) z)) (k ⟨1,y4,s.eh4,s.p5,s.eh5⟩)) (sl t1.2 z (k ⟨1,y4,s.eh4,s.p5,s.eh5⟩))) z) z) z) z) (e 2))
def F4(p:L3)(s:o8):Stp o8:=(sel (Nat.beq s.ph 1) (L8 .next .exit .fail p s) (L7 .next .exit .fail p s))
abbrev Y0:B2:=⟨0,1,true,some [[.c 3 (nL tV)]]⟩
def Ea1(a:List a7)(H:List a8):L3:=⟨aIq a 3,aIq a 4,aIq a 9,aIq a 10,aIq a 16,aIq a 17,aIq a 23,hLq tV H 0 0 0,hLq tV H 1 0 0⟩
def Aa2:Lo L3 o8:=⟨En pa6,0,nd8,[1,1,1,1,1,0,1,4,4,1,4,4,1,1,0,4,1,1,4,4,1,1,0,4,1,1,4,4],[1,3,4,9,10,16,17,23,24,60,62,63,64,66,67],.p,[⟨sUq::sPq 0::sUq::sIq::sIq::ru2 4 (sIq::sIq::ru2 5 (sIq::sIq::ru2 5 (sIq::sIq::ru2 35 (.s (.o (.lit .i64 0))::sUq::sPq 1::.s (.o .nil)::.s (.o (.lit .i64 0))::sUq::sPq 2::sPq 3::ru2 28 [])))),[Y0,Y0,⟨0,0,true,some [[.o (.ptr 4 0 0 0)]]⟩,⟨0,0,true,some [[.o .nil]]⟩,⟨141,0,true,none⟩],λa H=>(Ea1 a H,⟨0,aIq a 24,elT H 4,0,[]⟩)⟩,⟨sUq::sPq 0::sUq::sIq::sIq::ru2 4 (sIq::sIq::ru2 5 (sIq::sIq::ru2 5 (sIq::sIq::ru2 35 (.s (.o (.lit .i64 0))::sUq::sPq 1::.s (.o .nil)::.s (.o (.lit .i64 0))::sUq::sPq 2::sPq 3::ru2 28 [])))),[Y0,Y0,⟨0,0,true,some [[.o (.ptr 4 0 0 0)]]⟩,⟨0,0,true,some [[.o (.sl 5 0 (some 0) none)]]⟩,⟨141,0,true,none⟩,⟨66,4,true,none⟩],λa H=>(Ea1 a H,⟨1,aIq a 24,elT H 4,slN (slT (rwT (elT H 3) 0) 0),elT H 5⟩)⟩],F4,[(some 4,λp s=>upq (Ja7 p s) [(25,b (decide (s.D6<p.Db7)))]),(some 4,λp s=>upq (Ja8 p s) [(25,b (decide (s.D6<p.Db7)))])],Bb2⟩
theorem Bb3:Aa2.OkM:=Lo.okMq [] .nil λp s=>(.sel (Nat.beq s.ph 1) (.ofq @L8) (.ofq @L7))
structure o3 where
 ph:Nat
 A8:Int
 (b7 d8:List V3)
 eh4:List (List a7)
 p5:Nat
 eh5:List (List a7)
def Ja9(p:Q4)(s:o3):St:=⟨.unk::.ptr 0 0 0 0::.unk::i p.is3::ra 5 (i p.is9::i p.p8::ra 5 (i p.Ba9::i s.A8::ra 42 (i 0::.unk::.ptr 1 0 0 0::nlq::i 0::.unk::.ptr 2 0 0 0::.ptr 3 0 0 0::ra 28 []))),[bq 0 1 [[eL tV s.b7]],bq 0 1 [[eL tV s.d8]],bq 0 0 [[.ptr 4 0 0 0]],bq 0 0 [[nlq]],bq 141 0 s.eh4]⟩
def Ka0(p:Q4)(s:o3):St:=⟨.unk::.ptr 0 0 0 0::.unk::i p.is3::ra 5 (i p.is9::i p.p8::ra 5 (i p.Ba9::i s.A8::ra 42 (i 0::.unk::.ptr 1 0 0 0::nlq::i 0::.unk::.ptr 2 0 0 0::.ptr 3 0 0 0::ra 28 []))),[bq 0 1 [[eL tV s.b7]],bq 0 1 [[eL tV s.d8]],bq 0 0 [[.ptr 4 0 0 0]],bq 0 0 [[.sl 5 0 s.p5 0]],bq 141 0 s.eh4,bq 66 4 s.eh5]⟩
def Bb4(p:Q4)(s:o3):St:=(sel (Nat.beq s.ph 1) (Ka0 p s) (Ja9 p s))
def L9{α:Type}(k:o3->α)(e:Nat->α)(z:α)(p:Q4)(s:o3):α:=let y1:=(rt tV s.d8);let y0:=(rt tV s.b7);let t1:=(lp (F4 (⟨p.is3,s.A8,p.is9,p.p8,p.Ba9,s.A8,(↑(s.A8.toNat-0):Int),y0,y1⟩:L3)) (⟨0,0,s.eh4,0,[]⟩:o8));(sl (decide (s.A8<p.Ba9)) (sl (inB s.A8 ((List.length s.b7)+1)) (sl ((cnE tV s.b7)&&((cnE tV s.d8)&&true)) (sl (Nat.beq t1.1 1) (k ⟨0,W (s.A8+1),y0,y1,t1.2.eh4,0,[]⟩) (sl (Nat.beq t1.1 2) (k ⟨1,W (s.A8+1),y0,y1,t1.2.eh4,t1.2.p5,t1.2.eh5⟩) z)) z) z) (e 1))
def M0{α:Type}(k:o3->α)(e:Nat->α)(z:α)(p:Q4)(s:o3):α:=let y1:=(rt tV s.d8);let y0:=(rt tV s.b7);let t1:=(lp (F4 (⟨p.is3,s.A8,p.is9,p.p8,p.Ba9,s.A8,(↑(s.A8.toNat-0):Int),y0,y1⟩:L3)) (⟨1,0,s.eh4,s.p5,s.eh5⟩:o8));(sl (decide (s.A8<p.Ba9)) (sl (inB s.A8 ((List.length s.b7)+1)) (sl ((cnE tV s.b7)&&((cnE tV s.d8)&&true)) (sl (Nat.beq t1.1 1) (k ⟨0,W (s.A8+1),y0,y1,t1.2.eh4,0,[]⟩) (sl (Nat.beq t1.1 2) (k ⟨1,W (s.A8+1),y0,y1,t1.2.eh4,t1.2.p5,t1.2.eh5⟩) z)) z) z) (e 2))
def J7(p:Q4)(s:o3):Stp o3:=(sel (Nat.beq s.ph 1) (M0 .next .exit .fail p s) (L9 .next .exit .fail p s))
abbrev Y1:B2:=⟨0,1,true,some [[.c 3 (nL tV)]]⟩
def Aa3:Lo Q4 o3:=⟨En pa6,0,nd8,[1,1,1,1,1,0,1,4,4,1,4,4,1,1,0,4,1,1,4,4],[1,3,9,10,16,17,60,62,63,64,66,67],.s .p (.s .p (.s (.b (.s .p (.s .p (.b (.u Aa2.lsM))))) .p)),[⟨sUq::sPq 0::sUq::sIq::ru2 5 (sIq::sIq::ru2 5 (sIq::sIq::ru2 42 (.s (.o (.lit .i64 0))::sUq::sPq 1::.s (.o .nil)::.s (.o (.lit .i64 0))::sUq::sPq 2::sPq 3::ru2 28 []))),[Y1,Y1,⟨0,0,true,some [[.o (.ptr 4 0 0 0)]]⟩,⟨0,0,true,some [[.o .nil]]⟩,⟨141,0,true,none⟩],λa H=>(⟨aIq a 3,aIq a 9,aIq a 10,aIq a 16⟩,⟨0,aIq a 17,hLq tV H 0 0 0,hLq tV H 1 0 0,elT H 4,0,[]⟩)⟩,⟨sUq::sPq 0::sUq::sIq::ru2 5 (sIq::sIq::ru2 5 (sIq::sIq::ru2 42 (.s (.o (.lit .i64 0))::sUq::sPq 1::.s (.o .nil)::.s (.o (.lit .i64 0))::sUq::sPq 2::sPq 3::ru2 28 []))),[Y1,Y1,⟨0,0,true,some [[.o (.ptr 4 0 0 0)]]⟩,⟨0,0,true,some [[.o (.sl 5 0 (some 0) none)]]⟩,⟨141,0,true,none⟩,⟨66,4,true,none⟩],λa H=>(⟨aIq a 3,aIq a 9,aIq a 10,aIq a 16⟩,⟨1,aIq a 17,hLq tV H 0 0 0,hLq tV H 1 0 0,elT H 4,slN (slT (rwT (elT H 3) 0) 0),elT H 5⟩)⟩],J7,[(some 2,λp s=>upq (Ja9 p s) [(18,b (decide (s.A8<p.Ba9)))]),(some 2,λp s=>upq (Ka0 p s) [(18,b (decide (s.A8<p.Ba9)))])],Bb4⟩
theorem Bb5:Aa3.OkM:=Lo.okMq [Aa2.prM] (.cons Bb3 .nil) λp s=>(.sel (Nat.beq s.ph 1) (.ofq @M0) (.ofq @L9))
structure o9 where
 ph:Nat
 p8:Int
 (b7 d8:List V3)
 eh4:List (List a7)
 p5:Nat
 eh5:List (List a7)
def Ka1(p:A0)(s:o9):St:=⟨.unk::.ptr 0 0 0 0::ra 7 (i p.is9::i s.p8::ra 49 (i 0::.unk::.ptr 1 0 0 0::nlq::i 0::.unk::.ptr 2 0 0 0::.ptr 3 0 0 0::ra 28 [])),[bq 0 1 [[eL tV s.b7]],bq 0 1 [[eL tV s.d8]],bq 0 0 [[.ptr 4 0 0 0]],bq 0 0 [[nlq]],bq 141 0 s.eh4]⟩
def Ka2(p:A0)(s:o9):St:=⟨.unk::.ptr 0 0 0 0::ra 7 (i p.is9::i s.p8::ra 49 (i 0::.unk::.ptr 1 0 0 0::nlq::i 0::.unk::.ptr 2 0 0 0::.ptr 3 0 0 0::ra 28 [])),[bq 0 1 [[eL tV s.b7]],bq 0 1 [[eL tV s.d8]],bq 0 0 [[.ptr 4 0 0 0]],bq 0 0 [[.sl 5 0 s.p5 0]],bq 141 0 s.eh4,bq 66 4 s.eh5]⟩
def Bb6(p:A0)(s:o9):St:=(sel (Nat.beq s.ph 1) (Ka2 p s) (Ka1 p s))
def M1{α:Type}(k:o9->α)(e:Nat->α)(z:α)(p:A0)(s:o9):α:=let t1:=(lp (J7 (⟨s.p8,p.is9,s.p8,(↑(s.p8.toNat-0):Int)⟩:Q4)) (⟨0,0,rt tV s.b7,rt tV s.d8,s.eh4,0,[]⟩:o3));(sl (decide (s.p8<p.is9)) (sl (inB s.p8 ((List.length s.b7)+1)) (sl ((cnE tV s.b7)&&((cnE tV s.d8)&&true)) (sl (Nat.beq t1.1 1) (k ⟨0,W (s.p8+1),t1.2.b7,t1.2.d8,t1.2.eh4,0,[]⟩) (sl (Nat.beq t1.1 2) (k ⟨1,W (s.p8+1),t1.2.b7,t1.2.d8,t1.2.eh4,t1.2.p5,t1.2.eh5⟩) z)) z) z) (e 1))
def M2{α:Type}(k:o9->α)(e:Nat->α)(z:α)(p:A0)(s:o9):α:=let t1:=(lp (J7 (⟨s.p8,p.is9,s.p8,(↑(s.p8.toNat-0):Int)⟩:Q4)) (⟨1,0,rt tV s.b7,rt tV s.d8,s.eh4,s.p5,s.eh5⟩:o3));(sl (decide (s.p8<p.is9)) (sl (inB s.p8 ((List.length s.b7)+1)) (sl ((cnE tV s.b7)&&((cnE tV s.d8)&&true)) (sl (Nat.beq t1.1 1) (k ⟨0,W (s.p8+1),t1.2.b7,t1.2.d8,t1.2.eh4,0,[]⟩) (sl (Nat.beq t1.1 2) (k ⟨1,W (s.p8+1),t1.2.b7,t1.2.d8,t1.2.eh4,t1.2.p5,t1.2.eh5⟩) z)) z) z) (e 2))
def ha0(p:A0)(s:o9):Stp o9:=(sel (Nat.beq s.ph 1) (M2 .next .exit .fail p s) (M1 .next .exit .fail p s))
abbrev Y2:B2:=⟨0,1,true,some [[.c 3 (nL tV)]]⟩
def Aa4:Lo A0 o9:=⟨En pa6,0,nd8,[1,1,1,1,1,0,1,4,4,1,4,4],[1,9,10,60,62,63,64,66,67],.s .p (.s .p (.s (.b (.s .p (.s .p (.b (.u Aa3.lsM))))) .p)),[⟨sUq::sPq 0::ru2 7 (sIq::sIq::ru2 49 (.s (.o (.lit .i64 0))::sUq::sPq 1::.s (.o .nil)::.s (.o (.lit .i64 0))::sUq::sPq 2::sPq 3::ru2 28 [])),[Y2,Y2,⟨0,0,true,some [[.o (.ptr 4 0 0 0)]]⟩,⟨0,0,true,some [[.o .nil]]⟩,⟨141,0,true,none⟩],λa H=>(⟨aIq a 9⟩,⟨0,aIq a 10,hLq tV H 0 0 0,hLq tV H 1 0 0,elT H 4,0,[]⟩)⟩,⟨sUq::sPq 0::ru2 7 (sIq::sIq::ru2 49 (.s (.o (.lit .i64 0))::sUq::sPq 1::.s (.o .nil)::.s (.o (.lit .i64 0))::sUq::sPq 2::sPq 3::ru2 28 [])),[Y2,Y2,⟨0,0,true,some [[.o (.ptr 4 0 0 0)]]⟩,⟨0,0,true,some [[.o (.sl 5 0 (some 0) none)]]⟩,⟨141,0,true,none⟩,⟨66,4,true,none⟩],λa H=>(⟨aIq a 9⟩,⟨1,aIq a 10,hLq tV H 0 0 0,hLq tV H 1 0 0,elT H 4,slN (slT (rwT (elT H 3) 0) 0),elT H 5⟩)⟩],ha0,[(some 0,λp s=>upq (Ka1 p s) [(11,b (decide (s.p8<p.is9)))]),(some 0,λp s=>upq (Ka2 p s) [(11,b (decide (s.p8<p.is9)))])],Bb6⟩
theorem Bb7:Aa4.OkM:=Lo.okMq [Aa3.prM] (.cons Bb5 .nil) λp s=>(.sel (Nat.beq s.ph 1) (.ofq @M2) (.ofq @M1))
def U9(x:V3×List V3):ROq:=let t1:=(da0 (rt tV (x.1::x.2)));let t2:=(sa9 (hC tV (λk=>(tV).row (gL tV (x.1::x.2) k)),tC tV (List.length x.2) (λk=>(tV).row (gL tV (x.1::x.2) k))));let t3:=(lp (ha0 (⟨(↑(List.length t2):Int)⟩:A0)) (⟨0,0,rt tV t2,rt tV t2,[],0,[]⟩:o9));(sl (okE tV (x.1::x.2)) (sl (da1 (rt tV (x.1::x.2))) (sl (t1 != 0) (some (.tup [nlq,i t1],[])) (sl (okL tV (List.length x.2+1) (λk=>(tV).row (gL tV (x.1::x.2) k))) (sl (ta0 (hC tV (λk=>(tV).row (gL tV (x.1::x.2) k)),tC tV (List.length x.2) (λk=>(tV).row (gL tV (x.1::x.2) k)))) (sl ((cnE tV t2)&&((cnE tV t2)&&true)) (sl (Nat.beq t3.1 1) none (sl (Nat.beq t3.1 2) (sl (Bool.and (Nat.ble t3.2.p5 room) (Bool.and (Nat.ble t3.2.p5 (len t3.2.eh5)) (okS tP t3.2.eh5 0 t3.2.p5))) (some (.tup [.sl 0 0 t3.2.p5 0,i 0],[bq 66 4 (app (bL tP (cb4 (slR tP t3.2.eh5 0 t3.2.p5))) (g8 t3.2.eh5 t3.2.p5))])) none) none)) none) none) none)) none) none)
def wa3(x:V3×List V3):PLq×Int:=T9 (two (r1L tP) r1I) (U9 x)
def wa4(x:V3×List V3):Bool:=okO (two (r1L tP) r1I) (U9 x)
def nb3:Sum:=G7 (lc5 tV) (λx=>.guard (wa4 x) (.ret ((two (r1L tP) r1I).enc (wa3 x),[])))
theorem cb7:c8 prog G 70 nb3:=bc9 (bd b70 Nb3) (two (r1L tP) r1I) (o:=U9) λx=>Lb2 (.s .p (.s .p (.s .p (.s .p (.s .p (.s (.s .p (.b (.i (.s .p (.b (.u Aa4.lsM)))))) .p)))))) [Aa4.prM] (.cons Bb7 .nil)
structure ta1 where
 (Ka8 Ka9 La0 ge8 f7 d9 f9:Int)
def ub1:List (Nat×Sum):=[(72,Da5)]
theorem nb4:A2 prog G ub1:=⟨Na4,trivial⟩
structure ta2 where
 bs0:Bool
def ta3{α:Type}(kk:ta2->α)(x:ta1):α:=let t1:=(E9 (⟨x.f7,x.d9,x.f9⟩:V3) (⟨x.Ka8,x.Ka9,x.La0⟩:V3));(kk ⟨t1 != 0⟩)
def ta4(x:ta1):ta2:=ta3 (λr=>r) x
def Ka3(x:ta1)(r:ta2):DT (a7×List a8):=.ret (b r.bs0,[bq 0 3 [[i x.f7,i x.d9,i x.f9]]])
def Pa8:Sum:=Ma5 ⟨[.agg (kLq 4),sPq 0],[⟨0,3,true,some [kLq 3]⟩],λa H=>(⟨cIq a 0 0,cIq a 0 1,cIq a 0 2,cIq a 0 3,hIq H 0 0 0,hIq H 0 0 1,hIq H 0 0 2⟩,())⟩ (λx=>Ka3 x (ta4 x))
theorem ub2:c8 prog G 137 Pa8:=P6 (enc:=λx=>⟨[.agg [i x.Ka8,i x.Ka9,i x.La0,i x.ge8],.ptr 0 0 0 0],[bq 0 3 [[i x.f7,i x.d9,i x.f9]]]⟩) (λa H=>by kernel_rfl) (bd le3 nb4) λx=>Da2 (mEq @ta3 (λr=>(Ka3 x r).run) x)
structure O3 where
 L6:PLq
 (f7 d9 f9:Int)
def ba3:List (Nat×Sum):=[(137,Pa8)]
theorem wa5:A2 prog G ba3:=⟨ub2,trivial⟩
structure s6 where
 L6:PLq
 (is7 f7 d9 f9:Int)
def V9(p:s6)(s:j5):St:=⟨eL tP p.L6::.fn 137 [.ptr 0 0 0 0]::ra 5 (i p.is7::i s.is8::ra 10 []),[bq 0 3 [[i p.f7,i p.d9,i p.f9]]]⟩
def B5{α:Type}(k:j5->α)(e:Nat->α)(z:α)(p:s6)(s:j5):α:=let y0:=(gL tP p.L6 s.is8.toNat);let t1:=(ta4 ⟨y0.n.x,y0.n.y,y0.n.z,y0.b,p.f7,p.d9,p.f9⟩);(sl (decide (s.is8<p.is7)) (sl (inB s.is8 (List.length p.L6)) (sl t1.bs0 (e 1) (k ⟨W (s.is8+1)⟩)) z) (e 2))
def r5(p:s6)(s:j5):Stp j5:=B5 .next .exit .fail p s
def K8:Lo s6 j5:=⟨En ba3,1,Xc9,[1,0,1,4,4],[0,1,7,8],.p,[⟨sLq tP::.fn 137 [.o (.ptr 0 0 0 0)]::ru2 5 (sIq::sIq::ru2 10 []),[⟨0,3,true,some [kLq 3]⟩],λa H=>(⟨aLq tP a 0,aIq a 7,hIq H 0 0 0,hIq H 0 0 1,hIq H 0 0 2⟩,⟨aIq a 8⟩)⟩],r5,[(none,λp s=>⟨[i s.is8],[bq 0 3 [[i p.f7,i p.d9,i p.f9]]]⟩),(some 0,λp s=>upq (V9 p s) [(9,b (decide (s.is8<p.is7)))])],V9⟩
theorem ta5:K8.Ok:=Lo.okq [] .nil λp s=>(.ofq @B5)
def O5{α:Type}(kk:S1->α)(x:O3):α:=let t1:=(lp (r5 (⟨rt tP x.L6,(↑(List.length x.L6):Int),x.f7,x.d9,x.f9⟩:s6)) (⟨0⟩:j5));(sl ((cnE tP x.L6)&&true) (sl (Nat.beq t1.1 1) (kk ⟨1,t1.2.is8⟩) (sl (Nat.beq t1.1 2) (kk ⟨1,-1⟩) (kk ⟨0,0⟩))) (kk ⟨0,0⟩))
def F7(x:O3):S1:=O5 (λr=>r) x
def ba4(x:O3)(r:S1):DT (a7×List a8):=(ab4 r.alt 1 (i r.is0,[bq 0 3 [[i x.f7,i x.d9,i x.f9]]]) .fail)
def da4:Sum:=Ma5 ⟨[sLq tP,.fn 137 [.o (.ptr 0 0 0 0)]],[⟨0,3,true,some [kLq 3]⟩],λa H=>(⟨aLq tP a 0,hIq H 0 0 0,hIq H 0 0 1,hIq H 0 0 2⟩,())⟩ (λx=>ba4 x (F7 x))
theorem Aa5:c8 prog G 156 da4:=P6 (enc:=λx=>⟨[eL tP x.L6,.fn 137 [.ptr 0 0 0 0]],[bq 0 3 [[i x.f7,i x.d9,i x.f9]]]⟩) (λa H=>by kernel_rfl) (bd ae2 wa5) λx=>Pa1 (.s .p (.s (.s .p (.b (.u K8.ls))) .p)) [K8.pr] (.cons ta5 .nil) (mEq @O5 (λr=>(ba4 x r).run) x)
def qa4:List (Nat×Sum):=[(156,da4)]
theorem oa2:A2 prog G qa4:=⟨Aa5,trivial⟩
def K0{α:Type}(kk:Ga2->α)(x:O3):α:=let t1:=(F7 ⟨rt tP x.L6,x.f7,x.d9,x.f9⟩);(sl ((cnE tP x.L6)&&true) (sl (Nat.beq t1.alt 1) (kk ⟨1,decide (t1.is0>=0)⟩) (kk ⟨0,false⟩)) (kk ⟨0,false⟩))
def C3(x:O3):Ga2:=K0 (λr=>r) x
def U0(x:O3)(r:Ga2):DT (a7×List a8):=(ab4 r.alt 1 (b r.bs0,[bq 0 3 [[i x.f7,i x.d9,i x.f9]]]) .fail)
def W0:Sum:=Ma5 ⟨[sLq tP,.fn 137 [.o (.ptr 0 0 0 0)]],[⟨0,3,true,some [kLq 3]⟩],λa H=>(⟨aLq tP a 0,hIq H 0 0 0,hIq H 0 0 1,hIq H 0 0 2⟩,())⟩ (λx=>U0 x (C3 x))
theorem qa5:c8 prog G 135 W0:=P6 (enc:=λx=>⟨[eL tP x.L6,.fn 137 [.ptr 0 0 0 0]],[bq 0 3 [[i x.f7,i x.d9,i x.f9]]]⟩) (λa H=>by kernel_rfl) (bd ae1 oa2) λx=>Da2 (mEq @K0 (λr=>(U0 x r).run) x)
def Aa6:List (Nat×Sum):=[(73,Fa4),(135,W0)]
theorem Bb8:A2 prog G Aa6:=⟨Ua8,qa5,trivial⟩
structure W4 where
 (L6 zb1:PLq)
 (is9 p8:Int)
 ge9:Nat
 he3:Nat->List a7
 (wd2 f7 d9 f9 l9:Int)
structure F5 where
 Ac0:Int
def Ka4(p:W4)(s:F5):St:=⟨eL tP p.L6::ra 3 (.ptr 0 0 0 0::ra 3 (eL tP p.zb1::i p.is9::i p.p8::ra 6 (.tree 4 p.ge9 p.he3::i p.wd2::i s.Ac0::ra 18 []))),[bq 0 4 [[i p.f7,i p.d9,i p.f9,i p.l9]]]⟩
def Y3{α:Type}(k:F5->α)(e:Nat->α)(z:α)(p:W4)(s:F5):α:=let y0:=(p.he3 s.Ac0.toNat);let t1:=(L0 (⟨p.f7,p.d9,p.f9⟩:V3) (⟨toI (hdA y0),toI (hdA (tlA y0)),toI (hdA (tlA (tlA y0)))⟩:V3));let t2:=(C3 ⟨rt tP p.L6,t1.x,t1.y,t1.z⟩);(sl (decide (s.Ac0<p.wd2)) (sl (inB s.Ac0 p.ge9) (sl ((Nat.ble 4 (len y0))&&(Qa6 [CK.int .i64,CK.int .i64,CK.int .i64,CK.int .i64] y0)) (sl (!((t1.x==0)&&((t1.y==0)&&((t1.z==0)&&true)))) (sl ((cnE tP p.L6)&&true) (sl (Nat.beq t2.alt 1) (sl t2.bs0 (e 1) (k ⟨W (s.Ac0+1)⟩)) z) z) (k ⟨W (s.Ac0+1)⟩)) z) z) (e 2))
def M3(p:W4)(s:F5):Stp F5:=Y3 .next .exit .fail p s
def ta6:Lo W4 F5:=⟨En Aa6,0,Xc7,[1,0,1,4,4,1,1,0,4,1,1,4,4],[0,4,8,9,10,17,18,19],.p,[⟨sLq tP::ru2 3 (sPq 0::ru2 3 (sLq tP::sIq::sIq::ru2 6 (sTq 4::sIq::sIq::ru2 18 []))),[⟨0,4,true,some [kLq 4]⟩],λa H=>(⟨aLq tP a 0,aLq tP a 8,aIq a 9,aIq a 10,aNq a 17,aGq a 17,aIq a 18,hIq H 0 0 0,hIq H 0 0 1,hIq H 0 0 2,hIq H 0 0 3⟩,⟨aIq a 19⟩)⟩],M3,[(none,λp s=>⟨[b true],[]⟩),(some 2,λp s=>upq (Ka4 p s) [(20,b (decide (s.Ac0<p.wd2)))])],Ka4⟩
theorem ub3:ta6.Ok:=Lo.okq [] .nil λp s=>(.ofq @Y3)
structure F6 where
 (L6 zb1:PLq)
 p8:Int
def Ka5(p:A0)(s:F6):St:=⟨eL tP s.L6::ra 7 (eL tP s.zb1::i p.is9::i s.p8::ra 27 []),[]⟩
def Y4{α:Type}(k:F6->α)(e:Nat->α)(z:α)(p:A0)(s:F6):α:=let y0:=(gL tP s.zb1 s.p8.toNat);let t1:=(lp (M3 (⟨rt tP s.L6,rt tP s.zb1,p.is9,s.p8,s.p8.toNat-0,(λk=>(λk=>(tP).row (gL tP s.L6 k)) (0+k)),(↑(s.p8.toNat-0):Int),y0.n.x,y0.n.y,y0.n.z,y0.b⟩:W4)) (⟨0⟩:F5));(sl (decide (s.p8<p.is9)) (sl (inB s.p8 (List.length s.zb1)) (sl (inB s.p8 ((List.length s.L6)+1)) (sl ((cnE tP s.L6)&&((cnE tP s.zb1)&&true)) (sl (Nat.beq t1.1 1) (e 1) (sl (Nat.beq t1.1 2) (k ⟨rt tP s.L6,rt tP s.zb1,W (s.p8+1)⟩) z)) z) z) z) (e 2))
def M4(p:A0)(s:F6):Stp F6:=Y4 .next .exit .fail p s
def ta7:Lo A0 F6:=⟨En Aa6,0,Xc7,[1,0,1,4,4],[0,8,9,10],.s .p (.s .p (.s (.b (.s .p (.s .p (.b (.u ta6.ls))))) .p)),[⟨sLq tP::ru2 7 (sLq tP::sIq::sIq::ru2 27 []),[],λa H=>(⟨aIq a 9⟩,⟨aLq tP a 0,aLq tP a 8,aIq a 10⟩)⟩],M4,[(none,λp s=>⟨[b true],[]⟩),(some 0,λp s=>upq (Ka5 p s) [(11,b (decide (s.p8<p.is9)))])],Ka5⟩
theorem ub4:ta7.Ok:=Lo.okq [ta6.pr] (.cons ub3 .nil) λp s=>(.ofq @Y4)
def fa7(x:PLq):ROq:=let t1:=(lp (M4 (⟨(↑(List.length x):Int)⟩:A0)) (⟨rt tP x,rt tP x,0⟩:F6));(sl ((cnE tP x)&&((cnE tP x)&&true)) (sl (Nat.beq t1.1 1) (some (b true,[])) (sl (Nat.beq t1.1 2) (some (b false,[])) none)) none)
def W8(x:PLq):Bool:=T9 (one r1B) (fa7 x)
def W9(x:PLq):Bool:=okO (one r1B) (fa7 x)
def cb8:Sum:=G7 (da6 tP) (λx=>.guard (W9 x) (.ret ((one r1B).enc (W8 x),[])))
theorem Nb4:c8 prog G 108 cb8:=bc9 (bd ke2 Bb8) (one r1B) (o:=fa7) λx=>Pa1 (.s .p (.s (.s .p (.b (.u ta7.ls))) .p)) [ta7.pr] (.cons ub4 .nil)
structure oa3 where
 (Ka8 Ka9 La0:Int)
 G6:PLq
def Ea2:List (Nat×Sum):=[(74,va2),(108,cb8)]
theorem gb7:A2 prog G Ea2:=⟨Ga0,Nb4,trivial⟩
structure q8 where
 Yb4:PLq
 is8:Int
 G6:PLq
 (qb1 qb2 qb3:Int)
structure i6 where
 ph:Nat
 is9:Int
 ns4:Nat
 eh2:List (List a7)
def qa6(p:q8)(s:i6):St:=⟨.unk::.unk::.ptr 1 0 0 0::.unk::nlq::.unk::.unk::eL tP p.Yb4::i p.is8::i s.is9::ra 15 [],[bq 0 1 [[eL tP p.G6]],bq 0 3 [[i p.qb1,i p.qb2,i p.qb3]]]⟩
def qa7(p:q8)(s:i6):St:=⟨.unk::.unk::.ptr 1 0 0 0::.unk::.sl 2 0 s.ns4 0::.unk::.unk::eL tP p.Yb4::i p.is8::i s.is9::ra 15 [],[bq 0 1 [[eL tP p.G6]],bq 0 3 [[i p.qb1,i p.qb2,i p.qb3]],bq 66 4 s.eh2]⟩
def ab6(p:q8)(s:i6):St:=(sel (Nat.beq s.ph 1) (qa7 p s) (qa6 p s))
def C7{α:Type}(k:i6->α)(e:Nat->α)(z:α)(p:q8)(s:i6):α:=let y1:=(⟨p.qb1,p.qb2,p.qb3⟩:V3);let y0:=(gL tP p.Yb4 s.is9.toNat);let t1:=(U5 y0 y1);(sl (decide (s.is9<p.is8)) (sl (inB s.is9 (List.length p.Yb4)) (sl (U6 y0 y1) (sl (t1==0) (k ⟨1,W (s.is9+1),1,[[i y0.n.x,i y0.n.y,i y0.n.z,i y0.b]]⟩) (k ⟨0,W (s.is9+1),0,[]⟩)) z) z) (e 1))
def C8{α:Type}(k:i6->α)(e:Nat->α)(z:α)(p:q8)(s:i6):α:=let y1:=(⟨p.qb1,p.qb2,p.qb3⟩:V3);let y0:=(gL tP p.Yb4 s.is9.toNat);let t1:=(U5 y0 y1);(sl (decide (s.is9<p.is8)) (sl (inB s.is9 (List.length p.Yb4)) (sl (U6 y0 y1) (sl (t1==0) (sl (Nat.beq s.ns4 (len s.eh2)&&Nat.ble ((s.ns4+1)*32) room) (k ⟨1,W (s.is9+1),s.ns4+1,app s.eh2 [[i y0.n.x,i y0.n.y,i y0.n.z,i y0.b]]⟩) z) (k ⟨1,W (s.is9+1),s.ns4,s.eh2⟩)) z) z) (e 2))
def Q8(p:q8)(s:i6):Stp i6:=(sel (Nat.beq s.ph 1) (C8 .next .exit .fail p s) (C7 .next .exit .fail p s))
def ma6(a:List a7)(H:List a8):q8:=⟨aLq tP a 7,aIq a 8,hLq tP H 0 0 0,hIq H 1 0 0,hIq H 1 0 1,hIq H 1 0 2⟩
def ia2:Lo q8 i6:=⟨En Ea2,1,yd1,[1,1,0,1,4,4],[2,4,7,8,9],.p,[⟨sUq::sUq::sPq 1::sUq::.s (.o .nil)::sUq::sUq::sLq tP::sIq::sIq::ru2 15 [],[⟨0,1,true,some [[.c 4 (nL tP)]]⟩,⟨0,3,true,some [kLq 3]⟩],λa H=>(ma6 a H,⟨0,aIq a 9,0,[]⟩)⟩,⟨sUq::sUq::sPq 1::sUq::.s (.o (.sl 2 0 (some 0) none))::sUq::sUq::sLq tP::sIq::sIq::ru2 15 [],[⟨0,1,true,some [[.c 4 (nL tP)]]⟩,⟨0,3,true,some [kLq 3]⟩,⟨66,4,true,none⟩],λa H=>(ma6 a H,⟨1,aIq a 9,slN (slT a 4),elT H 2⟩)⟩],Q8,[(some 0,λp s=>upq (qa6 p s) [(10,b (decide (s.is9<p.is8)))]),(some 0,λp s=>upq (qa7 p s) [(10,b (decide (s.is9<p.is8)))])],ab6⟩
theorem ab7:ia2.Ok:=Lo.okq [] .nil λp s=>(.sel (Nat.beq s.ph 1) (.ofq @C8) (.ofq @C7))
structure oa4 where
 alt:Nat
 bs0:Bool
 G6:PLq
def oa5{α:Type}(kk:oa4->α)(x:oa3):α:=let y0:=(rt tP x.G6);let t1:=(lp (Q8 (⟨y0,(↑(List.length x.G6):Int),y0,x.Ka8,x.Ka9,x.La0⟩:q8)) (⟨0,0,0,[]⟩:i6));let t2:=(W8 []);let t3:=(W8 (slR tP t1.2.eh2 0 t1.2.ns4));(sl ((cnE tP x.G6)&&((cnE tP x.G6)&&true)) (sl (Nat.beq t1.1 1) (sl (W9 []) (kk ⟨1,!t2,y0⟩) (kk ⟨0,false,[]⟩)) (sl (Nat.beq t1.1 2) (sl (okS tP t1.2.eh2 0 t1.2.ns4) (sl (W9 (slR tP t1.2.eh2 0 t1.2.ns4)) (kk ⟨1,!t3,y0⟩) (kk ⟨0,false,[]⟩)) (kk ⟨0,false,[]⟩)) (kk ⟨0,false,[]⟩))) (kk ⟨0,false,[]⟩))
def G5(x:oa3):oa4:=oa5 (λr=>r) x
def Ea3(x:oa3)(r:oa4):DT (a7×List a8):=(ab4 r.alt 1 (b r.bs0,[bq 0 1 [[eL tP r.G6]]]) .fail)
def oa6:Sum:=Ma5 ⟨[.agg (kLq 3),sPq 0],[⟨0,1,true,some [[.c 4 (nL tP)]]⟩],λa H=>(⟨cIq a 0 0,cIq a 0 1,cIq a 0 2,hLq tP H 0 0 0⟩,())⟩ (λx=>Ea3 x (G5 x))
theorem Ea4:c8 prog G 107 oa6:=P6 (enc:=λx=>⟨[.agg [i x.Ka8,i x.Ka9,i x.La0],.ptr 0 0 0 0],[bq 0 1 [[eL tP x.G6]]]⟩) (λa H=>by kernel_rfl) (bd ke1 gb7) λx=>Pa1 (.s .p (.s .p (.s (.s .p (.b (.u ia2.ls))) .p))) [ia2.pr] (.cons ab7 .nil) (mEq @oa5 (λr=>(Ea3 x r).run) x)
structure T2 where
 ns0:Nat
 eh0:List (List a7)
 o0:PLq
def fa8:List (Nat×Sum):=[(107,oa6)]
theorem Ba7:A2 prog G fa8:=⟨Ea4,trivial⟩
structure A6 where
 ns0:Nat
 is7:Int
 eh0:List (List a7)
structure j8 where
 is8:Int
 o0:PLq
def ba5(p:A6)(s:j8):St:=⟨.sl 0 0 p.ns0 0::.fn 107 [.ptr 1 0 0 0]::ra 5 (i p.is7::i s.is8::ra 10 []),[bq 23 3 p.eh0,bq 0 1 [[eL tP s.o0]]]⟩
def D2{α:Type}(k:j8->α)(e:Nat->α)(z:α)(p:A6)(s:j8):α:=let y0:=(rdR tV p.eh0 (0+s.is8.toNat));let t1:=(G5 ⟨y0.x,y0.y,y0.z,rt tP s.o0⟩);(sl (decide (s.is8<p.is7)) (sl (inB s.is8 p.ns0) (sl (ldR tV p.eh0 (0+s.is8.toNat)) (sl ((cnE tP s.o0)&&true) (sl (Nat.beq t1.alt 1) (sl t1.bs0 (e 1) (k ⟨W (s.is8+1),t1.G6⟩)) z) z) z) z) (e 2))
def v7(p:A6)(s:j8):Stp j8:=D2 .next .exit .fail p s
def O6:Lo A6 j8:=⟨En fa8,2,Wb3,[1,0,1,4,4],[0,1,7,8],.p,[⟨.s (.o (.sl 0 0 (some 0) none))::.fn 107 [.o (.ptr 1 0 0 0)]::ru2 5 (sIq::sIq::ru2 10 []),[⟨23,3,true,none⟩,⟨0,1,true,some [[.c 4 (nL tP)]]⟩],λa H=>(⟨slN (slT a 0),aIq a 7,elT H 0⟩,⟨aIq a 8,hLq tP H 1 0 0⟩)⟩],v7,[(none,λp s=>let t1:=(G5 ⟨(rdR tV p.eh0 (0+s.is8.toNat)).x,(rdR tV p.eh0 (0+s.is8.toNat)).y,(rdR tV p.eh0 (0+s.is8.toNat)).z,rt tP s.o0⟩);⟨[i s.is8],[bq 23 3 p.eh0,bq 0 1 [[eL tP t1.G6]]]⟩),(some 0,λp s=>upq (ba5 p s) [(9,b (decide (s.is8<p.is7)))])],ba5⟩
theorem Aa7:O6.Ok:=Lo.okq [] .nil λp s=>(.ofq @D2)
structure T3 where
 alt:Nat
 is0:Int
 o0:PLq
def T4{α:Type}(kk:T3->α)(x:T2):α:=let t1:=(lp (v7 (⟨x.ns0,(↑x.ns0:Int),x.eh0⟩:A6)) (⟨0,rt tP x.o0⟩:j8));let y0:=(rdR tV x.eh0 (0+t1.2.is8.toNat));let t2:=(G5 ⟨y0.x,y0.y,y0.z,rt tP t1.2.o0⟩);(sl ((cnE tP x.o0)&&true) (sl (Nat.beq t1.1 1) (kk ⟨1,t1.2.is8,t2.G6⟩) (sl (Nat.beq t1.1 2) (kk ⟨1,-1,t1.2.o0⟩) (kk ⟨0,0,[]⟩))) (kk ⟨0,0,[]⟩))
def I8(x:T2):T3:=T4 (λr=>r) x
def fa9(x:T2)(r:T3):DT (a7×List a8):=(ab4 r.alt 1 (i r.is0,[bq 23 3 x.eh0,bq 0 1 [[eL tP r.o0]]]) .fail)
def ja2:Sum:=Ma5 ⟨[.s (.o (.sl 0 0 (some 0) none)),.fn 107 [.o (.ptr 1 0 0 0)]],[⟨23,3,true,none⟩,⟨0,1,true,some [[.c 4 (nL tP)]]⟩],λa H=>(⟨slN (slT a 0),elT H 0,hLq tP H 1 0 0⟩,())⟩ (λx=>fa9 x (I8 x))
theorem Ha1:c8 prog G 131 ja2:=P6 (enc:=λx=>⟨[.sl 0 0 x.ns0 0,.fn 107 [.ptr 1 0 0 0]],[bq 23 3 x.eh0,bq 0 1 [[eL tP x.o0]]]⟩) (λa H=>by kernel_rfl) (bd Yc0 Ba7) λx=>Pa1 (.s .p (.s (.s .p (.b (.u O6.ls))) .p)) [O6.pr] (.cons Aa7 .nil) (mEq @T4 (λr=>(fa9 x r).run) x)
def ga0:List (Nat×Sum):=[(131,ja2),(107,oa6)]
theorem Ba8:A2 prog G ga0:=⟨Ha1,Ea4,trivial⟩
structure A7 where
 ns0:Nat
structure m8 where
 (is5 is6:Int)
 eh0:List (List a7)
 o0:PLq
def ba6(p:A7)(s:m8):St:=⟨.sl 0 0 p.ns0 0::.fn 107 [.ptr 1 0 0 0]::ra 3 (i s.is5::i s.is6::ra 35 []),[bq 23 3 s.eh0,bq 0 1 [[eL tP s.o0]]]⟩
def D3{α:Type}(k:m8->α)(e:Nat->α)(z:α)(p:A7)(s:m8):α:=let y0:=(rdR tV s.eh0 (0+s.is6.toNat));let t1:=(G5 ⟨y0.x,y0.y,y0.z,rt tP s.o0⟩);(sl (decide (s.is6<(↑p.ns0:Int))) (sl (inB s.is6 p.ns0) (sl (ldR tV s.eh0 (0+s.is6.toNat)) (sl ((cnE tP s.o0)&&true) (sl (Nat.beq t1.alt 1) (sl (!t1.bs0) (sl (inB s.is5 p.ns0) (sl ((Nat.blt (0+s.is5.toNat) (len s.eh0))&&(Nat.ble (0+3) (len (k8 s.eh0 (0+s.is5.toNat))))) (k ⟨W (s.is5+1),W (s.is6+1),setAt s.eh0 (0+s.is5.toNat) (Q9 (k8 s.eh0 (0+s.is5.toNat)) 0 [i y0.x,i y0.y,i y0.z]),t1.G6⟩) z) z) (k ⟨s.is5,W (s.is6+1),s.eh0,t1.G6⟩)) z) z) z) z) (e 1))
def p4(p:A7)(s:m8):Stp m8:=D3 .next .exit .fail p s
def O7:Lo A7 m8:=⟨En ga0,2,yd2,[1,1,1,0,1,4,4],[0,1,5,6],.p,[⟨.s (.o (.sl 0 0 (some 0) none))::.fn 107 [.o (.ptr 1 0 0 0)]::ru2 3 (sIq::sIq::ru2 35 []),[⟨23,3,true,none⟩,⟨0,1,true,some [[.c 4 (nL tP)]]⟩],λa H=>(⟨slN (slT a 0)⟩,⟨aIq a 5,aIq a 6,elT H 0,hLq tP H 1 0 0⟩)⟩],p4,[(some 0,λp s=>upq (ba6 p s) [(16,i s.is6),(17,.sl 0 0 p.ns0 0),(18,i (↑p.ns0:Int)),(19,b (decide (s.is6<(↑p.ns0:Int))))])],ba6⟩
theorem Aa8:O7.Ok:=Lo.okq [] .nil λp s=>(.ofq @D3)
structure T6 where
 (alt ns0:Nat)
 eh0:List (List a7)
 o0:PLq
def T7{α:Type}(kk:T6->α)(x:T2):α:=let t1:=(I8 ⟨x.ns0,x.eh0,rt tP x.o0⟩);let t2:=(lp (p4 (⟨x.ns0⟩:A7)) (⟨t1.is0,W (t1.is0+1),x.eh0,rt tP t1.o0⟩:m8));(sl ((cnE tP x.o0)&&true) (sl (Nat.beq t1.alt 1) (sl (t1.is0==(-1)) (kk ⟨1,x.ns0,x.eh0,t1.o0⟩) (sl ((cnE tP t1.o0)&&true) (sl (Nat.beq t2.1 1) (sl (inB t2.2.is5 (x.ns0+1)) (sl (inB t2.2.is5 (x.ns0+1)) (kk ⟨1,t2.2.is5.toNat-0,app (q9 t2.2.eh0 (0+t2.2.is5.toNat)) (app (List.replicate (x.ns0-t2.2.is5.toNat) [i 0,i 0,i 0]) (g8 t2.2.eh0 ((0+t2.2.is5.toNat)+(x.ns0-t2.2.is5.toNat)))),t2.2.o0⟩) (kk ⟨0,0,[],[]⟩)) (kk ⟨0,0,[],[]⟩)) (kk ⟨0,0,[],[]⟩)) (kk ⟨0,0,[],[]⟩))) (kk ⟨0,0,[],[]⟩)) (kk ⟨0,0,[],[]⟩))
def I9(x:T2):T6:=T7 (λr=>r) x
def ga1(x:T2)(r:T6):DT (a7×List a8):=(ab4 r.alt 1 (.sl 0 0 r.ns0 0,[bq 23 3 r.eh0,bq 0 1 [[eL tP r.o0]]]) .fail)
def ja3:Sum:=Ma5 ⟨[.s (.o (.sl 0 0 (some 0) none)),.fn 107 [.o (.ptr 1 0 0 0)]],[⟨23,3,true,none⟩,⟨0,1,true,some [[.c 4 (nL tP)]]⟩],λa H=>(⟨slN (slT a 0),elT H 0,hLq tP H 1 0 0⟩,())⟩ (λx=>ga1 x (I9 x))
theorem Ha2:c8 prog G 109 ja3:=P6 (enc:=λx=>⟨[.sl 0 0 x.ns0 0,.fn 107 [.ptr 1 0 0 0]],[bq 23 3 x.eh0,bq 0 1 [[eL tP x.o0]]]⟩) (λa H=>by kernel_rfl) (bd ke3 Ba8) λx=>Pa1 (.s .p (.s .p (.s .p (.s (.s .p (.b (.u O7.ls))) .p)))) [O7.pr] (.cons Aa8 .nil) (mEq @T7 (λr=>(ga1 x r).run) x)
def nb5:List (Nat×Sum):=[(138,ia1),(139,X3),(141,ba2)]
theorem gb8:A2 prog G nb5:=⟨ua5,ma2,ma5,trivial⟩
def oa8{α:Type}(kk:ha9->α)(x:V3×List V3):α:=let t1:=(N6 (hC tV (λk=>(tV).row (gL tV (x.1::x.2) k)),tC tV (List.length x.2) (λk=>(tV).row (gL tV (x.1::x.2) k))));let t2:=(C6 ⟨t1.ns0,app (bL tV (Pa6 (slR tV t1.eh0 0 t1.ns0))) (g8 t1.eh0 t1.ns0)⟩);(sl (okL tV (List.length x.2+1) (λk=>(tV).row (gL tV (x.1::x.2) k))) (sl (Nat.beq t1.alt 1) (sl (Bool.and (Nat.ble t1.ns0 room) (Bool.and (Nat.ble t1.ns0 (len t1.eh0)) (okS tV t1.eh0 0 t1.ns0))) (sl (Nat.beq t2.alt 1) (kk ⟨1,t2.ns0,t2.eh0⟩) (kk ⟨0,0,[]⟩)) (kk ⟨0,0,[]⟩)) (kk ⟨0,0,[]⟩)) (kk ⟨0,0,[]⟩))
def da2(x:V3×List V3):ha9:=oa8 (λr=>r) x
def Ea5(r:ha9):DT (a7×List a8):=(ab4 r.alt 1 (.sl 0 0 r.ns0 0,[bq 23 3 r.eh0]) .fail)
def T8:Sum:=G7 (lc5 tV) (λx=>Ea5 (da2 x))
theorem Y5:c8 prog G 110 T8:=Ya4 (bd Zd8 gb8) λx=>Da2 (mEq @oa8 (λr=>(Ea5 r).run) x)
def Bb9:List (Nat×Sum):=[(70,nb3),(110,T8),(109,ja3)]
theorem ub5:A2 prog G Bb9:=⟨cb7,Y5,Ha2,trivial⟩
def ba7(x:V3×List V3):ROq:=let t1:=(wa3 (hC tV (λk=>(tV).row (gL tV (x.1::x.2) k)),tC tV (List.length x.2) (λk=>(tV).row (gL tV (x.1::x.2) k))));let t2:=(da2 (hC tV (λk=>(tV).row (gL tV (x.1::x.2) k)),tC tV (List.length x.2) (λk=>(tV).row (gL tV (x.1::x.2) k))));let t3:=(I9 ⟨t2.ns0,t2.eh0,rt tP t1.1⟩);(sl (okL tV (List.length x.2+1) (λk=>(tV).row (gL tV (x.1::x.2) k))) (sl (wa4 (hC tV (λk=>(tV).row (gL tV (x.1::x.2) k)),tC tV (List.length x.2) (λk=>(tV).row (gL tV (x.1::x.2) k)))) (sl (t1.2 != 0) (some (.tup [nlq,i t1.2],[])) (sl (okL tV (List.length x.2+1) (λk=>(tV).row (gL tV (x.1::x.2) k))) (sl (Nat.beq t2.alt 1) (sl ((cnE tP t1.1)&&true) (sl (Nat.beq t3.alt 1) (some (.tup [.sl 0 0 t3.ns0 0,i 0],[bq 23 3 t3.eh0])) none) none) none) none)) none) none)
def Va7(x:V3×List V3):List V3×Int:=T9 (two (r1L tV) r1I) (ba7 x)
def Va8(x:V3×List V3):Bool:=okO (two (r1L tV) r1I) (ba7 x)
def Nb5:Sum:=G7 (lc5 tV) (λx=>.guard (Va8 x) (.ret ((two (r1L tV) r1I).enc (Va7 x),[])))
theorem Cb0:c8 prog G 69 Nb5:=cb2 (bd b69 ub5) (two (r1L tV) r1I) (o:=ba7)
end Go.Ev.Ce
namespace Go.Ev.L
open Go Go.Ev
def Jd2:Cod Unit where
 enc _:=.v (.slice none 0 0)
 dec x:=match x with
  |.v (.slice none 0 0)=>some ()
  |_=>none
 grd _:=true
 ok x a hx _:=by
  split at hx
  ·exact .refl _
  ·cases hx
def cE0:Cod (Addr×Nat) where
 enc z:=.v (.slice (some z.1) 0 z.2)
 dec x:=match x with
  |.v (.slice (some a) 0 c)=>some (a,c)
  |_=>none
 grd _:=true
 ok x a hx _:=by
  split at hx
  ·cases hx;exact .refl _
  ·cases hx
section
variable{α:Type}{t:Ty α}{P:Program}{G:Nat->List Value}{f:FuncId}
theorem Za3{β:Type}{c:Cod β}{k k':β->DT (a7×List a8)}(h:c8 P G f (G7 c k))(hk:∀a r,(k' a).run=some r->(k a).run=some r):c8 P G f (G7 c k'):=h.le λargs blks r hr=>by
 unfold G7 at hr ⊢
 split at hr
 ·obtain⟨a,h1,hr⟩:=K3 hr;obtain⟨g,hr⟩:=DT.run_guard_some hr;simp only[h1,onO,g];exact hk a r hr
 ·cases hr
theorem Zc3{k:List α->DT (a7×List a8)}(hA:c8 P G f (G7 (lc5 t) λz=>k (z.1::z.2)))(hN:c8 P G f (G7 Jd2 λ_=>k []))(hE:c8 P G f (G7 cE0 λ_=>k [])):c8 P G f (G7 (da6 t) k):=by
 intro args blks r out he W ρ F w args' hH hlen hargs hG;unfold G7 at he
 split at he
 ·rename_i x;obtain⟨a,h1,he⟩:=K3 he;obtain⟨g1,hk⟩:=DT.run_guard_some he;have nilCase:∀v',args'[0]?=some v'->v'=.slice none 0 0->a=[]->ya0 P f/\Calls P f args'.toArray w λe w'=>∃r',e=.returned r'/\s8 W ρ [] F w r out r' w':=λv' hv e ha=>by
   subst ha;refine hN [.v (.slice none 0 0)] [] r out ?_ W ρ F w args' hH hlen (λi x' y' hx hy=>?_) hG
   ·exact hk
   ·match i with
    |0=>cases hx;rw[hv] at hy;cases hy;rw[e];exact .val (.cell (.v _))
    |i+1=>cases hx
  have emptyCase:∀v' ad c,args'[0]?=some v'->v'=.slice (some ad) 0 c->a=[]->ya0 P f/\Calls P f args'.toArray w λe w'=>∃r',e=.returned r'/\s8 W ρ [] F w r out r' w':=λv' ad c hv e ha=>by
   subst ha;refine hE [.v (.slice (some ad) 0 c)] [] r out ?_ W ρ F w args' hH hlen (λi x' y' hx hy=>?_) hG
   ·exact hk
   ·match i with
    |0=>cases hx;rw[hv] at hy;cases hy;rw[e];exact .val (.cell (.v _))
    |i+1=>cases hx
  obtain⟨v',hv⟩:∃v',args'[0]?=some v':=by
   cases args' with
   |nil=>simp at hlen
   |cons v' r'=>exact⟨v',rfl⟩
  cases x with
  |tree e n get =>
   have hb:Nat.beq e t.es=true/\a=lsL t n get:=by
    have h1:(Bool.rec none (some (lsL t n get)) (Nat.beq e t.es):Option (List α))=some a:=h1;cases hb:Nat.beq e t.es with
    |false=>rw[hb] at h1;cases h1
    |true =>
     simp_all
   cases n with
   |zero =>
    have ha:a=[]:=hb.2;have hm:=P2 (hargs 0 _ v' rfl hv);cases hm with
    |tree _ _ _ ad cap cs hs hcap hes hF hw hr=>exact emptyCase _ ad cap hv rfl ha
    |nil=>exact nilCase _ hv rfl ha
   |succ m =>
    have ha:a=hC t get::tC t m get:=hb.2.trans (lc4 t m get);subst ha;refine hA [.tree e (m+1) get] [] r out ?_ W ρ F w args' hH hlen hargs hG;have hc:(lc5 t).dec (.tree e (m+1) get)=some (hC t get,tC t m get):=by
     show (Bool.rec none (some (hC t get,tC t m get)) (Nat.beq e t.es):Option (α×List α))=_;rw[hb.1]
    have hg:(lc5 t).grd (.tree e (m+1) get)=true:=g1;simp only[G7,hc,onO,hg];exact hk
  |v q =>
   have hq:=D8 (hargs 0 _ v' rfl hv);unfold da6 at h1
   grind
  |_=>cases h1
 ·cases he
end
end Go.Ev.L
namespace Go.Ev.Ce
open Go Go.Ev Go.Ev.L Go.Proofs
set_option maxRecDepth 100000
def Nb6:List (Nat×Sum):=[(104,wa0),(110,T8),(111,S4)]
theorem Cb1:A2 prog G Nb6:=⟨fa6,Y5,V7,trivial⟩
def Ha3(x:Unit):ROq:=let t1:=(da0 []);(sl (da1 []) (sl (t1 != 0) (some (.tup [nlq,i t1],[])) none) none)
def cb9(x:Unit):PLq×Int:=T9 (two (r1L tP) r1I) (Ha3 x)
def db0(x:Unit):Bool:=okO (two (r1L tP) r1I) (Ha3 x)
def db1:Sum:=G7 Jd2 (λx=>.guard (db0 x) (.ret ((two (r1L tP) r1I).enc (cb9 x),[])))
theorem Va9:c8 prog G 70 db1:=bc9 (bd b70 Cb1) (two (r1L tP) r1I) (o:=Ha3) λx=>Lb2 .p [] .nil
def ub6:List (Nat×Sum):=[(70,db1),(110,T8)]
theorem nb6:A2 prog G ub6:=⟨Va9,Y5,trivial⟩
def ta8(x:Unit):ROq:=let t1:=(cb9 ());(sl (db0 ()) (sl (t1.2 != 0) (some (.tup [nlq,i t1.2],[])) none) none)
def Cb2(x:Unit):List V3×Int:=T9 (two (r1L tV) r1I) (ta8 x)
def Cb3(x:Unit):Bool:=okO (two (r1L tV) r1I) (ta8 x)
def Cb4:Sum:=G7 Jd2 (λx=>.guard (Cb3 x) (.ret ((two (r1L tV) r1I).enc (Cb2 x),[])))
theorem ub7:c8 prog G 69 Cb4:=cb2 (bd b69 nb6) (two (r1L tV) r1I) (o:=ta8)
def Nb7:List (Nat×Sum):=[(111,S4)]
theorem Cb5:A2 prog G Nb7:=⟨V7,trivial⟩
def Ha4(x:Addr×Nat):ROq:=none
def db2(x:Addr×Nat):PLq×Int:=T9 (two (r1L tP) r1I) (Ha4 x)
def db3(x:Addr×Nat):Bool:=okO (two (r1L tP) r1I) (Ha4 x)
def db4:Sum:=G7 cE0 (λx=>.guard (db3 x) (.ret ((two (r1L tP) r1I).enc (db2 x),[])))
theorem Wa0:c8 prog G 70 db4:=bc9 (bd b70 Cb5) (two (r1L tP) r1I) (o:=Ha4) λx=>Lb2 .p [] .nil
def ub8:List (Nat×Sum):=[(70,db4),(110,T8)]
theorem nb7:A2 prog G ub8:=⟨Wa0,Y5,trivial⟩
def ta9(x:Addr×Nat):ROq:=let t1:=(db2 x);(sl (db3 x) (sl (t1.2 != 0) (some (.tup [nlq,i t1.2],[])) none) none)
def Cb6(x:Addr×Nat):List V3×Int:=T9 (two (r1L tV) r1I) (ta9 x)
def Cb7(x:Addr×Nat):Bool:=okO (two (r1L tV) r1I) (ta9 x)
def Cb8:Sum:=G7 cE0 (λx=>.guard (Cb7 x) (.ret ((two (r1L tV) r1I).enc (Cb6 x),[])))
theorem ub9:c8 prog G 69 Cb8:=cb2 (bd b69 nb7) (two (r1L tV) r1I) (o:=ta9)
def Nb8:List (Nat×Sum):=[(104,wa0),(111,S4)]
theorem Cb9:A2 prog G Nb8:=⟨fa6,V7,trivial⟩
def ga2(x:List V3):ROq:=let t1:=(da0 (rt tV x));(sl (okE tV x) (sl (da1 (rt tV x)) (sl (t1 != 0) (some (.tup [nlq,i t1],[])) none) none) none)
def pa7(x:List V3):PLq×Int:=T9 (two (r1L tP) r1I) (ga2 x)
def pa8(x:List V3):Bool:=okO (two (r1L tP) r1I) (ga2 x)
def db5:Sum:=G7 (da6 tV) (λx=>.guard (pa8 x) (.ret ((two (r1L tP) r1I).enc (pa7 x),[])))
theorem Wa1:c8 prog G 70 db5:=bc9 (bd b70 Cb9) (two (r1L tP) r1I) (o:=ga2) λx=>Lb2 .p [] .nil
def vb0:List (Nat×Sum):=[(70,db5)]
theorem nb8:A2 prog G vb0:=⟨Wa1,trivial⟩
def W6(x:List V3):ROq:=let t1:=(pa7 (rt tV x));(sl (okE tV x) (sl (pa8 (rt tV x)) (sl (t1.2 != 0) (some (.tup [nlq,i t1.2],[])) none) none) none)
def ua0(x:List V3):List V3×Int:=T9 (two (r1L tV) r1I) (W6 x)
def ua1(x:List V3):Bool:=okO (two (r1L tV) r1I) (W6 x)
def Db0:Sum:=G7 (da6 tV) (λx=>.guard (ua1 x) (.ret ((two (r1L tV) r1I).enc (ua0 x),[])))
theorem vb1:c8 prog G 69 Db0:=cb2 (bd b69 nb8) (two (r1L tV) r1I) (o:=W6)
structure rc2 where
 (f7 ie5 ie6:Int)
structure rc3 where
 Ba9:Int
structure id7 where
 (Ka8 Ka9 La0:Int)
 ge7:PLq
 (he4 he5 he6:Int)
structure Qc3 where
 (he4 he5 he6:Int)
 se3:PLq
 A8:Int
structure Qc4 where
 ph:Nat
 wd2:Int
 ns8:Nat
 eh0:List (List a7)
structure id8 where
 alt:Nat
 bs1:Bool
 ns0:Nat
 eh0:List (List a7)
structure ab8 where
structure Wa2 where
structure Wa3 where
structure ab9 where
 alt:Nat
structure vb2 where
structure nb9 where
structure ob0 where
structure vb3 where
 alt:Nat
structure Qb9 where
structure Rb0 where
 alt:Nat
def rm(p:Pln)(x:Pt):Int:=W (p.b*x.pw-(p.n.x*x.px+p.n.y*x.py+p.n.z*x.pz))
structure Bd(p:Pln):Prop where
 x1:-4608<=p.n.x
 x2:p.n.x<=4608
 y1:-4608<=p.n.y
 y2:p.n.y<=4608
 z1:-4608<=p.n.z
 z2:p.n.z<=4608
 b1:-2097152<=p.b
 b2:p.b<=2097152
def mv(p q r:Pln):V3 :=
 ⟨(c9 q.n r.n).x*p.b+(c9 r.n p.n).x*q.b+(c9 p.n q.n).x*r.b,
  (c9 q.n r.n).y*p.b+(c9 r.n p.n).y*q.b+(c9 p.n q.n).y*r.b,
  (c9 q.n r.n).z*p.b+(c9 r.n p.n).z*q.b+(c9 p.n q.n).z*r.b⟩
def gc(v:V3)(w:Int):Int:=(Nat.gcd (Nat.gcd v.x.natAbs v.y.natAbs) (Nat.gcd v.z.natAbs w.natAbs):Nat)
def mpt(p q r:Pln):Pt×Bool :=
 if mw p q r=0 then (⟨0,0,0,0⟩,false)
 else if mw p q r<0 then (⟨Int.tdiv (-(mv p q r).x) (gc (mv p q r) (mw p q r)),Int.tdiv (-(mv p q r).y) (gc (mv p q r) (mw p q r)),Int.tdiv (-(mv p q r).z) (gc (mv p q r) (mw p q r)),Int.tdiv (-(mw p q r)) (gc (mv p q r) (mw p q r))⟩,true)
 else (⟨Int.tdiv (mv p q r).x (gc (mv p q r) (mw p q r)),Int.tdiv (mv p q r).y (gc (mv p q r) (mw p q r)),Int.tdiv (mv p q r).z (gc (mv p q r) (mw p q r)),Int.tdiv (mw p q r) (gc (mv p q r) (mw p q r))⟩,true)
def Sm(n:Int)(x:Int):Prop:=-n<=x/\x<=n
theorem Zc4{a b:V3}(ha:Sm 4608 a.x/\Sm 4608 a.y/\Sm 4608 a.z)(hb:Sm 4608 b.x/\Sm 4608 b.y/\Sm 4608 b.z):Sm 42467328 (c9 a b).x/\Sm 42467328 (c9 a b).y/\Sm 42467328 (c9 a b).z:=by
 obtain⟨⟨a1,a2⟩,⟨a3,a4⟩,a5,a6⟩:=ha;obtain⟨⟨b1,b2⟩,⟨b3,b4⟩,b5,b6⟩:=hb;have h1:=mb a3 a4 b5 b6;have h2:=mb a5 a6 b3 b4;have h3:=mb a5 a6 b1 b2;have h4:=mb a1 a2 b5 b6;have h5:=mb a1 a2 b3 b4;have h6:=mb a3 a4 b1 b2;unfold Sm c9
 simp only
 omega
theorem Bd.n{p:Pln}(h:Bd p):Sm 4608 p.n.x/\Sm 4608 p.n.y/\Sm 4608 p.n.z:=⟨⟨h.x1,h.x2⟩,⟨h.y1,h.y2⟩,h.z1,h.z2⟩
theorem pd1(a b:V3):L0 a b=⟨W (c9 a b).x,W (c9 a b).y,W (c9 a b).z⟩:=by
 unfold L0 c9;simp only[Yc9,Zc0]
theorem pd2(a b:V3):Da3 a b=⟨W (c9 a b).x,W (c9 a b).y,W (c9 a b).z⟩:=by
 unfold Da3 c9;simp only[Yc9,Zc0]
theorem vb4{x:Int}(h:Sm 1000000000000000000 x):W x=x:=aa8 (by have:=h.1;omega) (by have:=h.2;omega)
theorem Sm.mono{n m x:Int}(h:Sm n x)(hn:n<=m):Sm m x:=⟨by have:=h.1;omega,by have:=h.2;omega⟩
theorem wa6{n x g:Int}(h:Sm n x)(hg:0<g):Sm n (Int.tdiv x g):=by
 have h1:(Int.tdiv x g).natAbs<=x.natAbs:=by rw[Int.natAbs_tdiv];exact Nat.div_le_self _ _
 have:=h.1;have:=h.2
 constructor<;>omega
end Go.Ev.Ce
