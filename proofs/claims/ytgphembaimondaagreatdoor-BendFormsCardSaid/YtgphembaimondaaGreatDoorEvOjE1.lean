/- Own work. -/
import Derived.Test.YtgphembaimondaaGreatDoorChecked
import Derived.Test.YtgphembaimondaaGreatDoorEvOjCePf
import Derived.KernelRfl
set_option linter.all false
noncomputable section
def Qha:=@List.drop_eq_getElem_cons
def Qhb:=@List.length_mergeSort
def Qhc:=@Bool.false_eq_true
namespace Go.Ev.Ce
open Go Go.Ev Go.Proofs
set_option maxRecDepth 1000000
theorem mx:(Tryz.prog).follows .mixedOrders=true:=Checked.mixed Tryz.checked
abbrev Bdq(n:Nat)(pf:PFn):Prop:=mc7 Tryz.prog n λE=>j6 E pf
theorem bdq{f:FuncId}{fn:Func}(hf:(Tryz.prog).funcs[f]?=some fn)(hn:decide (fn.name ≠ "runtime.NumGoroutine")=true:=by kernel_rfl)(hc:Option.isSome (db4 Tryz.prog fn)=true:=by kernel_rfl):Bdq f (got (db4 Tryz.prog fn)):=we5 mx hf hn (zb3 hc)
theorem b3:Bdq 3 pf3:=bdq Tryz.func3
theorem b4:Bdq 4 pf4:=bdq Tryz.func4
theorem b5:Bdq 5 pf5:=bdq Tryz.func5
theorem b6:Bdq 6 pf6:=bdq Tryz.func6
theorem b7:Bdq 7 pf7:=bdq Tryz.func7
theorem b8:Bdq 8 pf8:=bdq Tryz.func8
theorem b9:Bdq 9 pf9:=bdq Tryz.func9
theorem b10:Bdq 10 ge9:=bdq Tryz.func10
theorem b11:Bdq 11 he3:=bdq Tryz.func11
theorem b12:Bdq 12 he4:=bdq Tryz.func12
theorem b14:Bdq 14 we6:=bdq Tryz.func14
theorem b17:Bdq 17 he5:=bdq Tryz.func17
theorem b18:Bdq 18 he6:=bdq Tryz.func18
theorem b19:Bdq 19 he7:=bdq Tryz.func19
theorem b20:Bdq 20 he8:=bdq Tryz.func20
theorem b21:Bdq 21 he9:=bdq Tryz.func21
theorem b22:Bdq 22 ie0:=bdq Tryz.func22
theorem b23:Bdq 23 we7:=bdq Tryz.func23
theorem b33:Bdq 33 ie1:=bdq Tryz.func33
theorem b34:Bdq 34 ie2:=bdq Tryz.func34
theorem b35:mc7 Tryz.prog 35 λE=>ka9 E ie3:=yc5 (h:=h35) mx Tryz.func35 (by kernel_rfl) Tryz.func142 (by kernel_rfl) (zb3 (by kernel_rfl))
theorem b36:Bdq 36 ie4:=bdq Tryz.func36
theorem b37:Bdq 37 ie5:=bdq Tryz.func37
theorem b38:Bdq 38 ie6:=bdq Tryz.func38
theorem b39:Bdq 39 ie7:=bdq Tryz.func39
theorem b40:Bdq 40 ie8:=bdq Tryz.func40
theorem b41:Bdq 41 ie9:=bdq Tryz.func41
theorem b42:Bdq 42 je0:=bdq Tryz.func42
theorem b43:Bdq 43 je1:=bdq Tryz.func43
theorem b44:Bdq 44 je2:=bdq Tryz.func44
theorem b45:Bdq 45 je3:=bdq Tryz.func45
theorem b46:Bdq 46 je4:=bdq Tryz.func46
theorem b47:Bdq 47 je5:=bdq Tryz.func47
theorem b48:Bdq 48 je6:=bdq Tryz.func48
theorem b61:Bdq 61 je7:=bdq Tryz.func61
theorem b62:Bdq 62 je8:=bdq Tryz.func62
theorem b63:Bdq 63 je9:=bdq Tryz.func63
theorem b64:Bdq 64 ke0:=bdq Tryz.func64
theorem b65:Bdq 65 ke1:=bdq Tryz.func65
theorem b66:Bdq 66 ke2:=bdq Tryz.func66
theorem b67:Bdq 67 ke3:=bdq Tryz.func67
theorem b68:Bdq 68 ke4:=bdq Tryz.func68
theorem b69:Bdq 69 we8:=bdq Tryz.func69
theorem b70:mc7 Tryz.prog 70 λE=>ka9 E Ad2:=yc5 (h:=h70) mx Tryz.func70 (by kernel_rfl) Tryz.func142 (by kernel_rfl) (zb3 (by kernel_rfl))
theorem b71:Bdq 71 ke5:=bdq Tryz.func71
theorem b72:Bdq 72 ke6:=bdq Tryz.func72
theorem b73:Bdq 73 ke7:=bdq Tryz.func73
theorem b74:Bdq 74 ke8:=bdq Tryz.func74
theorem b75:Bdq 75 ke9:=bdq Tryz.func75
theorem b76:Bdq 76 le0:=bdq Tryz.func76
theorem b77:Bdq 77 le1:=bdq Tryz.func77
theorem b78:Bdq 78 le2:=bdq Tryz.func78
theorem b79:mc7 Tryz.prog 79 λE=>ka9 E le3:=yc5 (h:=h79) mx Tryz.func79 (by kernel_rfl) Tryz.func142 (by kernel_rfl) (zb3 (by kernel_rfl))
theorem b90:Bdq 90 le4:=bdq Tryz.func90
theorem b91:Bdq 91 Ud7:=bdq Tryz.func91
theorem b92:Bdq 92 le5:=bdq Tryz.func92
theorem b94:Bdq 94 le6:=bdq Tryz.func94
theorem b95:Bdq 95 le7:=bdq Tryz.func95
theorem b96:Bdq 96 le8:=bdq Tryz.func96
theorem b97:Bdq 97 le9:=bdq Tryz.func97
theorem b98:Bdq 98 me0:=bdq Tryz.func98
theorem b99:Bdq 99 me1:=bdq Tryz.func99
theorem we9:Bdq 100 Kd1:=bdq Tryz.func100
theorem Ad3:Bdq 101 Kd2:=bdq Tryz.func101
theorem xe0:Bdq 102 Kd3:=bdq Tryz.func102
theorem xe1:Bdq 103 Kd4:=bdq Tryz.func103
theorem xe2:Bdq 104 me2:=bdq Tryz.func104
theorem xe3:Bdq 105 Kd5:=bdq Tryz.func105
theorem xe4:Bdq 106 Kd6:=bdq Tryz.func106
theorem xe5:Bdq 107 Kd7:=bdq Tryz.func107
theorem xe6:Bdq 108 kd4:=bdq Tryz.func108
theorem xe7:Bdq 109 Kd8:=bdq Tryz.func109
theorem ne7:Bdq 110 me3:=bdq Tryz.func110
theorem xe8:Bdq 111 Kd9:=bdq Tryz.func111
theorem xe9:Bdq 112 me4:=bdq Tryz.func112
theorem ye0:Bdq 114 me5:=bdq Tryz.func114
theorem ne8:Bdq 115 Ld0:=bdq Tryz.func115
theorem ye1:Bdq 116 Ld1:=bdq Tryz.func116
theorem ne9:Bdq 122 Pc2:=bdq Tryz.func122
theorem ye2:Bdq 130 Ld2:=bdq Tryz.func130
theorem kd7:Bdq 131 fc6:=bdq Tryz.func131
theorem ye3:Bdq 132 Ld3:=bdq Tryz.func132
theorem ye4:Bdq 133 me6:=bdq Tryz.func133
theorem ye5:mc7 Tryz.prog 134 λE=>ka9 E Pc3:=yc5 (h:=ge7) mx Tryz.func134 (by kernel_rfl) Tryz.func142 (by kernel_rfl) (zb3 (by kernel_rfl))
theorem oe0:Bdq 135 Ld4:=bdq Tryz.func135
theorem ye6:Bdq 136 Ld5:=bdq Tryz.func136
theorem ye7:Bdq 137 me7:=bdq Tryz.func137
theorem ye8:Bdq 138 me8:=bdq Tryz.func138
theorem ye9:Bdq 140 me9:=bdq Tryz.func140
theorem ze0:Bdq 141 kd5:=bdq Tryz.func141
theorem ze1:Bdq 143 ne0:=bdq Tryz.func143
theorem ze2:Bdq 144 ne2:=bdq Tryz.func144
theorem ze3:Bdq 145 ne3:=bdq Tryz.func145
theorem ze4:mc7 Tryz.prog 148 λE=>ka9 E Ld6:=yc5 (h:=ge8) mx Tryz.func148 (by kernel_rfl) Tryz.func218 (by kernel_rfl) (zb3 (by kernel_rfl))
theorem ze5:Bdq 155 ne4:=bdq Tryz.func155
theorem oe1:Bdq 156 kd6:=bdq Tryz.func156
theorem ze6:Bdq 158 Ld7:=bdq Tryz.func158
theorem ze7:Bdq 159 ne5:=bdq Tryz.func159
theorem oe2:Bdq 160 Ld8:=bdq Tryz.func160
theorem ze8:Bdq 182 ne6:=bdq Tryz.func182
theorem ze9:Bdq 214 Ld9:=bdq Tryz.func214
theorem Ae0:Bdq 216 Md0:=bdq Tryz.func216
theorem Ae1:Bdq 217 Md1:=bdq Tryz.func217
theorem Ae2:Bdq 219 Md2:=bdq Tryz.func219
theorem Ae3:Bdq 220 Md3:=bdq Tryz.func220
theorem Ae4:Bdq 222 Md4:=bdq Tryz.func222
theorem Ae5:Bdq 223 Md5:=bdq Tryz.func223
theorem Ae6:Bdq 224 Md6:=bdq Tryz.func224
theorem Ae7:Bdq 225 Md7:=bdq Tryz.func225
end Go.Ev.Ce
namespace Go.Ev.L
open Go Go.Ev
def Ua9:RT->PC->PS2
 |.s a b,.seq x y=>.seq (Ua9 a x) (Ua9 b y)
 |.c a b,.cond g x y=>.cond g (Ua9 a x) (Ua9 b y)
 |.b a,.block id x=>.block id (Ua9 a x)
 |.i a,.inner f x n c=>.inner f x n (Ua9 a c)
 |.u S,_=>.sum S
 |_,c=>.pc c
theorem mc8{E:Env}{k:Nat}(rt:RT)(c:PC):X4 (λx=>∀s,G4 (x.1 s) (q8 E k x.2 s)) (Na4 rt c)->O8 E k (Ua9 rt c) c:=by
 induction rt generalizing c with
 |p=>intro h;cases c<;>exact .pc _
 |s a b iha ihb =>
  intro h;cases c with
  |seq x y=>exact .seq (iha x (X4.app h).1) (ihb y (X4.app h).2)
  |_=>exact .pc _
 |c a b iha ihb =>
  intro h;cases c with
  |cond g x y=>exact .cond g (iha x (X4.app h).1) (ihb y (X4.app h).2)
  |_=>exact .pc _
 |b a iha =>
  intro h;cases c with
  |block id x=>exact .block id (iha x h)
  |_=>exact .pc _
 |l a iha=>intro h;cases c<;>exact .pc _
 |i a iha =>
  intro h;cases c with
  |inner f x n c=>exact .inner f x n (iha c h)
  |_=>exact .pc _
 |u S =>
  intro h
  have:Na4 (.u S) c=[(S,c)]:=by cases c<;>rfl
  rw[this] at h;cases h with
  |cons h t =>
   have e:Ua9 (.u S) c=.sum S:=by cases c<;>rfl
   rw[e];exact .sum h
section
variable{π σ:Type}{E:Env}{k:Nat}{keep:List Nat}{alts:List (Al2 π σ)}{enc:π->σ->St}{step:π->σ->Stp σ}{xs:Xs π σ}{body:PS2}{c:PC}
theorem Za4.belowM(hb:O8 E k body c)(hN:E.N=rounds+1)(w:Za4 yc4 k keep (zb2 E k body) alts step xs enc)(s:St):G4 (ec1 yc4 k keep alts step xs s) (q8 E k (.loopM keep c) s):=λr hr=>by
 obtain⟨t,h1,h2⟩:=w.go hr;rw[Ic7,hN];exact Ra7 hb.le _ _ _ (eb6 h1 h2)
theorem Za4.belowML(hb:O8 E k body c)(hN:E.N=rounds+1)(w:Za4 Ya8 k keep (zb2 E k body) alts step xs enc)(s:St):G4 (ec1 Ya8 k keep alts step xs s) (q8 E k (.loop keep c) s):=λr hr=>by
 obtain⟨t,h1,h2⟩:=w.go hr;rw[dc9,hN];exact Ra7 hb.le _ _ _ (eb6 h1 h2)
end
end Go.Ev.L
namespace Go.Ev.Ab
open Go Go.Ev
@[reducible] noncomputable def o(d:Nat)(x:PO):PI:=⟨some d,none,[],x⟩
@[reducible] noncomputable def s(x:PO):PI:=⟨none,none,[],x⟩
@[reducible] noncomputable def ci(n:Int):Arg:=.c (.v (.int .i64 n))
@[reducible] noncomputable def cb(b:Bool):Arg:=.c (.v (.bool b))
@[reducible] noncomputable def vi(n:Int):a7:=.v (.int .i64 n)
@[reducible] noncomputable def rep{α:Type}(n:Nat)(x:α):List α:=List.replicate n x
@[reducible] noncomputable def ki(n:Nat):List CK:=List.replicate n (.int .i64)
@[reducible] noncomputable def mv(d n:Nat):PI:=o d (.mv (.t n))
@[reducible] noncomputable def mc(d:Nat)(n:Int):PI:=o d (.mv (ci n))
@[reducible] noncomputable def mb(d:Nat)(x:Bool):PI:=o d (.mv (cb x))
@[reducible] noncomputable def fd(d k n:Nat):PI:=o d (.fld k (.t n))
@[reducible] noncomputable def ex(d x k:Nat):PI:=o d (.ext (.t x) k)
@[reducible] noncomputable def so(l:List PI)(x:PC):PC:=.seq (.ops l) x
@[reducible] noncomputable def sq(x y:PC):PC:=.seq x y
@[reducible] noncomputable def ts(l:List Nat):List Arg:=l.map .t
@[reducible] noncomputable def cl(f:Nat)(l:List Nat):PO:=.call f (ts l)
@[reducible] noncomputable def pa(d c x:Nat):PI:=o d (.pick (.t c) (.t x) (cb false))
@[reducible] noncomputable def po(d c x:Nat):PI:=o d (.pick (.t c) (cb true) (.t x))
@[reducible] noncomputable def al(d k:Nat)(n:Int):PI:=o d (.alloc (rep k (vi n)))
@[reducible] noncomputable def ap(d et es n x y:Nat):PI:=o d (.append et es n (.t x) (.t y))
end Go.Ev.Ab
namespace Go.Ev.L
open Go Go.Ev
def Cps{π σ:Type}(u:∀{α:Type},(σ->α)->(Nat->α)->α->π->σ->α):Prop :=
 ∀{α β:Type} (F:α->β) (k:σ->α) (e:Nat->α) (z:α) (p:π) (s:σ),F (u k e z p s)=u (λx=>F (k x)) (λt=>F (e t)) (F z) p s
@[reducible] noncomputable def foL{π σ:Type}(en:π->σ->St)(xs:Xs π σ)(p:π)(s:σ):Stp σ->Option (c9×St):=Ya9 (λs'=>some (.normal,en p s')) (λt=>xOf xs p s t 1) none
structure Lo(π σ:Type) where
 E:Env
 k:Nat
 F:PFn
 at':List Nat
 kp:List Nat
 rt:RT
 al:List (Al2 π σ)
 st:π->σ->Stp σ
 xs:Xs π σ
 en:π->σ->St
namespace Lo
variable{π σ:Type}(L:Lo π σ)
def lc:PC:=we3 L.at' L.F.body
def ls:St->DT (c9×St):=ec1 Ya8 L.k L.kp L.al L.st L.xs
def lsM:St->DT (c9×St):=ec1 yc4 L.k L.kp L.al L.st L.xs
def pr:(St->DT (c9×St))×PC:=(L.ls,.loop L.kp L.lc)
def prM:(St->DT (c9×St))×PC:=(L.lsM,.loopM L.kp L.lc)
def Ok:Prop:=∀s,I6 L.k L.F.res (L.pr.1 s) (q8 L.E L.k L.pr.2 s)
def OkE:Prop:=∀s,G4 (L.pr.1 s) (q8 L.E L.k L.pr.2 s)
def OkM:Prop:=∀s,G4 (L.prM.1 s) (q8 L.E L.k L.prM.2 s)
def Rd(hd:St->DT St)(bd:St->DT (c9×St))(p:π)(s:σ)(a:St)(b:Stp σ):Prop:=(Ha4 hd bd a).run=foL L.en L.xs p s b
def H0:Prop:=∀p s,L.Rd (Ya8 L.k L.kp) (Mc8 L.E L.k L.F.res (Rb2 L.rt L.lc)) p s (L.en p s) (L.st p s)
def H1:Prop:=∀p s,L.Rd (Ya8 L.k L.kp) (zb2 L.E L.k (Ua9 L.rt L.lc)) p s (L.en p s) (L.st p s)
def H2:Prop:=∀p s,L.Rd (yc4 L.k L.kp) (zb2 L.E L.k (Ua9 L.rt L.lc)) p s (L.en p s) (L.st p s)
def HA:Prop:=X4 (λx=>∀a H,(⟨Vc7 x.sh a,Vc8 x.bl H⟩:St)=L.en (x.rd a H).1 (x.rd a H).2) L.al
variable{L}
theorem Rd.of{hd:St->DT St}{bd:St->DT (c9×St)}{p:π}{s:σ}{a:St}(u:∀{α:Type},(σ->α)->(Nat->α)->α->π->σ->α)
  (q:Cps @u) (H:(Ha4 hd bd a).run=u (λx=>foL L.en L.xs p s (.next x)) (λt=>foL L.en L.xs p s (.exit t)) (foL L.en L.xs p s .fail) p s):L.Rd hd bd p s a (u .next .exit .fail p s) :=
 H.trans (q (foL L.en L.xs p s) Stp.next Stp.exit Stp.fail p s).symm
theorem Rd.sel{hd:St->DT St}{bd:St->DT (c9×St)}{p:π}{s:σ}{a1 a0:St}{b1 b0:Stp σ}(c:Bool)(h1:L.Rd hd bd p s a1 b1)(h0:L.Rd hd bd p s a0 b0):L.Rd hd bd p s (sel c a1 a0) (sel c b1 b0):=by
 cases c with
 |true=>exact h1
 |false=>exact h0
theorem ok(l:List ((St->DT (c9×St))×PC))(hs:Na4 L.rt L.lc=l)(hl:X4 (λx=>∀s,I6 L.k L.F.res (x.1 s) (q8 L.E L.k x.2 s)) l)(hN:L.E.N=rounds+1)(ha:L.HA)(h:L.H0):L.Ok :=
 Za4.belowC (Nc9 _ _ (by rw[hs];exact hl)) hN ⟨ha,h⟩
theorem okE(l:List ((St->DT (c9×St))×PC))(hs:Na4 L.rt L.lc=l)(hl:X4 (λx=>∀s,G4 (x.1 s) (q8 L.E L.k x.2 s)) l)(hN:L.E.N=rounds+1)(ha:L.HA)(h:L.H1):L.OkE :=
 Za4.belowML (mc8 _ _ (by rw[hs];exact hl)) hN ⟨ha,h⟩
theorem okM(l:List ((St->DT (c9×St))×PC))(hs:Na4 L.rt L.lc=l)(hl:X4 (λx=>∀s,G4 (x.1 s) (q8 L.E L.k x.2 s)) l)(hN:L.E.N=rounds+1)(ha:L.HA)(h:L.H2):L.OkM :=
 Za4.belowM (mc8 _ _ (by rw[hs];exact hl)) hN ⟨ha,h⟩
end Lo
theorem Ae8{E:Env}{F:PFn}{args:List a7}{blks:List a8}{o:Option (a7×List a8)}(rt:RT)(l:List ((St->DT (c9×St))×PC))(hs:Na4 rt F.body=l)
  (hl:X4 (λx=>∀s,I6 (len blks) F.res (x.1 s) (q8 E (len blks) x.2 s)) l) (h:(Sd2 E F (Rb2 rt F.body) args blks).run=o) (r:a7×List a8) (hr:o=some r):(j6 E F args blks).run=some r :=
 Gc2 (Nc9 rt _ (by rw[hs];exact hl)) r (h.trans hr)
theorem oe3{E:Env}{F:PFn}{args:List a7}{blks:List a8}{o:Option (a7×List a8)}(rt:RT)(l:List ((St->DT (c9×St))×PC))(hs:Na4 rt F.body=l)
  (hl:X4 (λx=>∀s,G4 (x.1 s) (q8 E (len blks) x.2 s)) l) (h:(kd3 E F (Ua9 rt F.body) args blks).run=o) (r:a7×List a8) (hr:o=some r):(ka9 E F args blks).run=some r :=
 yc3 (mc8 rt _ (by rw[hs];exact hl)) r (h.trans hr)
theorem ya6{A o:Option (a7×List a8)}(h:A=o)(r:a7×List a8)(hr:o=some r):A=some r:=h.trans hr
def Cpa{π ρ:Type}(u:∀{α:Type},(ρ->α)->π->α):Prop:=∀{α β:Type} (F:α->β) (k:ρ->α) (p:π),F (u k p)=u (λx=>F (k x)) p
theorem Lo.Rd.ofq{π σ:Type}{L:Lo π σ}{hd:St->DT St}{bd:St->DT (c9×St)}{p:π}{s:σ}{a:St}(u:∀{α:Type},(σ->α)->(Nat->α)->α->π->σ->α)
  (q:Cps @u:=by intro _ _ F _ _ _ _ _;(repeat' apply Jd5 (f:=F))<;>rfl) (H:(Ha4 hd bd a).run=u (λx=>foL L.en L.xs p s (.next x)) (λt=>foL L.en L.xs p s (.exit t)) (foL L.en L.xs p s .fail) p s:=by kernel_rfl):L.Rd hd bd p s a (u .next .exit .fail p s):=Lo.Rd.of @u q H
theorem Lo.okq {π σ : Type} {L : Lo π σ} (l : List ((St → DT (c9 × St)) × PC)) (hl : X4 (fun x => ∀ s, I6 L.k L.F.res (x.1 s) (q8 L.E L.k x.2 s)) l) (h : L.H0) (hs : Na4 L.rt L.lc = l := by kernel_rfl) (hN : L.E.N = rounds + 1 := by rfl)
  (ha:L.HA:=by repeat' (first | exact .nil | refine .cons (λa H=>by kernel_rfl) ?_)):L.Ok:=Lo.ok l hs hl hN ha h
theorem Lo.okMq {π σ : Type} {L : Lo π σ} (l : List ((St → DT (c9 × St)) × PC)) (hl : X4 (fun x => ∀ s, G4 (x.1 s) (q8 L.E L.k x.2 s)) l) (h : L.H2) (hs : Na4 L.rt L.lc = l := by kernel_rfl) (hN : L.E.N = rounds + 1 := by rfl)
  (ha:L.HA:=by repeat' (first | exact .nil | refine .cons (λa H=>by kernel_rfl) ?_)):L.OkM:=Lo.okM l hs hl hN ha h
theorem Ha8{E:Env}{F:PFn}{args:List a7}{blks:List a8}{o:Option (a7×List a8)}(rt:RT)(l:List ((St->DT (c9×St))×PC))
  (hl:X4 (λx=>∀s,I6 (len blks) F.res (x.1 s) (q8 E (len blks) x.2 s)) l) (h:(Sd2 E F (Rb2 rt F.body) args blks).run=o:=by kernel_rfl) (hs:Na4 rt F.body=l:=by kernel_rfl) (r:a7×List a8) (hr:o=some r):(j6 E F args blks).run=some r:=Ae8 rt l hs hl h r hr
theorem Tb1{E:Env}{F:PFn}{args:List a7}{blks:List a8}{o:Option (a7×List a8)}(rt:RT)(l:List ((St->DT (c9×St))×PC))
  (hl:X4 (λx=>∀s,G4 (x.1 s) (q8 E (len blks) x.2 s)) l) (h:(kd3 E F (Ua9 rt F.body) args blks).run=o:=by kernel_rfl) (hs:Na4 rt F.body=l:=by kernel_rfl) (r:a7×List a8) (hr:o=some r):(ka9 E F args blks).run=some r:=oe3 rt l hs hl h r hr
theorem mEq{π ρ β:Type}(u:∀{α:Type},(ρ->α)->π->α)(FO:ρ->β)(x:π){v:β}(h1:v=u FO x:=by kernel_rfl)(q:Cpa @u:=by intro _ _ F _ _;(repeat' apply Jd5 (f:=F))<;>rfl):v=FO (u (λr=>r) x):=h1.trans (q FO (λr=>r) x).symm
abbrev nlq:a7:=.v (.slice none 0 0)
abbrev bq(et es:Nat)(el:List (List a7)):a8:=⟨et,es,el,true,false,0⟩
abbrev gb7{α:Type}(a n:Nat)(x:α)(y:DT α):DT α:=.ite (Nat.beq a n) (.ret x) y
theorem Na9{α ρ:Type}{P:Program}{G:Nat->List Value}{f:FuncId}{R0:Sum}{c0:Cod α}(hb:d6 P G f R0)(R:RR ρ){o:α->Option (a7×List a8)}(h:∀a0 r,o a0=some r->(R0 [c0.enc a0] []).run=some r:=by exact λ_=>ya6 (by kernel_rfl)):d6 P G f (G9 c0 λa0=>rdO R (o a0)):=lc5 hb R h
theorem kd8{α:Type}{P:Program}{G:Nat->List Value}{f:FuncId}{R:Sum}{c0:Cod α}{k:α->DT (a7×List a8)}(hb:d6 P G f R)(h:∀a0 r,(k a0).run=some r->(R [c0.enc a0] []).run=some r:=by exact λ_=>ya6 (by kernel_rfl)):d6 P G f (G9 c0 k):=eb7 hb h
theorem rb9{α β ρ:Type}{P:Program}{G:Nat->List Value}{f:FuncId}{R0:Sum}{c0:Cod α}{c1:Cod β}(hb:d6 P G f R0)(R:RR ρ){o:α->β->Option (a7×List a8)}(h:∀a0 a1 r,o a0 a1=some r->(R0 [c0.enc a0,c1.enc a1] []).run=some r:=by exact λ_ _=>ya6 (by kernel_rfl)):d6 P G f (pa5 c0 c1 λa0 a1=>rdO R (o a0 a1)):=Sd4 hb R h
theorem yc6{α β:Type}{P:Program}{G:Nat->List Value}{f:FuncId}{R:Sum}{c0:Cod α}{c1:Cod β}{k:α->β->DT (a7×List a8)}(hb:d6 P G f R)(h:∀a0 a1 r,(k a0 a1).run=some r->(R [c0.enc a0,c1.enc a1] []).run=some r:=by exact λ_ _=>ya6 (by kernel_rfl)):d6 P G f (pa5 c0 c1 k):=Mc5 hb h
theorem oe4{α β γ ρ:Type}{P:Program}{G:Nat->List Value}{f:FuncId}{R0:Sum}{c0:Cod α}{c1:Cod β}{c2:Cod γ}(hb:d6 P G f R0)(R:RR ρ){o:α->β->γ->Option (a7×List a8)}(h:∀a0 a1 a2 r,o a0 a1 a2=some r->(R0 [c0.enc a0,c1.enc a1,c2.enc a2] []).run=some r:=by exact λ_ _ _=>ya6 (by kernel_rfl)):d6 P G f (Hb3 c0 c1 c2 λa0 a1 a2=>rdO R (o a0 a1 a2)):=we2 hb R h
theorem Md8{α β γ:Type}{P:Program}{G:Nat->List Value}{f:FuncId}{R:Sum}{c0:Cod α}{c1:Cod β}{c2:Cod γ}{k:α->β->γ->DT (a7×List a8)}(hb:d6 P G f R)(h:∀a0 a1 a2 r,(k a0 a1 a2).run=some r->(R [c0.enc a0,c1.enc a1,c2.enc a2] []).run=some r:=by exact λ_ _ _=>ya6 (by kernel_rfl)):d6 P G f (Hb3 c0 c1 c2 k):=Mc6 hb h
theorem oe5{α β γ δ ρ:Type}{P:Program}{G:Nat->List Value}{f:FuncId}{R0:Sum}{c0:Cod α}{c1:Cod β}{c2:Cod γ}{c3:Cod δ}(hb:d6 P G f R0)(R:RR ρ){o:α->β->γ->δ->Option (a7×List a8)}(h:∀a0 a1 a2 a3 r,o a0 a1 a2 a3=some r->(R0 [c0.enc a0,c1.enc a1,c2.enc a2,c3.enc a3] []).run=some r:=by exact λ_ _ _ _=>ya6 (by kernel_rfl)):d6 P G f (Qb6 c0 c1 c2 c3 λa0 a1 a2 a3=>rdO R (o a0 a1 a2 a3)):=Sd5 hb R h
def tbN:List (Nat×Sum):=[]
theorem Oa0{P:Program}{G:Nat->List Value}:w7 P G tbN:=trivial
abbrev upq(x:St)(l:List (Nat×a7)):St:=⟨l.foldl (λa q=>a.set q.1 q.2) x.a,x.H⟩
abbrev sIq:S2:=.s (.o (.int .i64))
abbrev sUq:S2:=.s (.o .unk)
abbrev sPq(n:Nat):S2:=.s (.o (.ptr n 0 0 0))
abbrev sTq(n:Nat):S2:=.s (.o (.tree n))
abbrev sLq{α:Type}(t:Ty α):S2:=.s (.c t.es (nL t))
abbrev kLq(n:Nat):List K:=List.replicate n (.o (.int .i64))
abbrev aIq(a:List a7)(n:Nat):Int:=toI (slT a n)
abbrev aNq(a:List a7)(n:Nat):Nat:=toN (slT a n)
abbrev aGq(a:List a7)(n:Nat):Nat->List a7:=toG (slT a n)
abbrev aLq{α:Type}(t:Ty α)(a:List a7)(n:Nat):List α:=rL t (slT a n)
abbrev hIq(H:List a8)(m r n:Nat):Int:=toI (slT (rwT (elT H m) r) n)
abbrev cIq(a:List a7)(m n:Nat):Int:=toI (slT (cellsOf (slT a m)) n)
abbrev hLq{α:Type}(t:Ty α)(H:List a8)(m r n:Nat):List α:=rL t (slT (rwT (elT H m) r) n)
end Go.Ev.L
namespace Go.Ev.Ce
structure V3 where
 x:Int
 y:Int
 z:Int
structure Pln where
 n:V3
 b:Int
structure Pt where
 px:Int
 py:Int
 pz:Int
 pw:Int
def d7(a b:V3):V3:=⟨a.y*b.z-a.z*b.y,a.z*b.x-a.x*b.z,a.x*b.y-a.y*b.x⟩
def dot(a b:V3):Int:=a.x*b.x+a.y*b.y+a.z*b.z
def mw(p q r:Pln):Int:=dot p.n (d7 q.n r.n)
end Go.Ev.Ce
namespace Go.Ev.Ce
open Go Go.Ev Go.Ev.L Go.Proofs
@[reducible] noncomputable def prog:Program:=Tryz.prog
def G:Nat->List Value:=λ_=>[]
def En(l:List (Nat×Sum)):Env:={ P:=prog,G,fns:=λ_=>none,call:=Rd8 l,own:=λf j=>Bool.and (va3 f [113,109,156,131,139,141]) (Nat.beq j 0),N:=18446744073709551616 }
@[reducible] noncomputable def u:a7:=.v (.tuple #[])
theorem oe6{l:List (Nat×Sum)}(h:w7 prog G l):∀f,d6 (En l).P (En l).G f ((En l).call f):=Mc4 h
theorem bd{l:List (Nat×Sum)}{f:FuncId}{R:Env->Sum}(b:mc7 prog f R)(h:w7 prog G l):d6 prog G f (R (En l)):=b rfl (oe6 h)
def tV:Ty V3 where
 es:=3
 row x:=[i x.x,i x.y,i x.z]
 rd r:=⟨toI (hdA r),toI (hdA (tlA r)),toI (hdA (tlA (tlA r)))⟩
 ok r:=qa6 3 r
 cks:=List.replicate 3 (.int .i64)
 d:=⟨0,0,0⟩
 h0 _:=rfl
 h1 _:=rfl
 h2 _:=rfl
 h3 _ h:=.of (qa7 h)
 h4 _:=rfl
 h5 _:=rfl
def r1V:R1 V3:=r1A tV 3 λ_ h=>h
def tP:Ty Pln where
 es:=4
 row x:=[i x.n.x,i x.n.y,i x.n.z,i x.b]
 rd r:=⟨⟨toI (hdA r),toI (hdA (tlA r)),toI (hdA (tlA (tlA r)))⟩,toI (hdA (tlA (tlA (tlA r))))⟩
 ok r:=qa6 4 r
 cks:=List.replicate 4 (.int .i64)
 d:=⟨⟨0,0,0⟩,0⟩
 h0 _:=rfl
 h1 _:=rfl
 h2 _:=rfl
 h3 _ h:=.of (qa7 h)
 h4 _:=rfl
 h5 _:=rfl
abbrev PLq:=List Pln
abbrev LPq:=List PLq
abbrev tLq:=tLs tP
abbrev tMq:=tLs tLq
abbrev ROq:=Option (a7×List a8)
def r1P:R1 Pln:=r1A tP 4 λ_ h=>h
structure Tp where
 p:Pln
 q:Pln
 r:Pln
structure Q2 where
 a:V3
 b:V3
set_option maxRecDepth 100000
def zb4(x:V3)(y:V3):V3:=(⟨W (x.x+y.x),W (x.y+y.y),W (x.z+y.z)⟩:V3)
def fc7:Sum:=pa5 (ha1 tV) (ha1 tV) (λx y=>.ret ((one r1V).enc (zb4 x y),[]))
theorem Ic8:d6 prog G 23 fc7:=yc6 (bd b23 Oa0)
def fb3(x:V3)(y:V3):Int:=(W ((W ((W (x.x*y.x))+(W (x.y*y.y))))+(W (x.z*y.z))))
def Ha9(x:V3)(y:V3):V3:=(⟨W ((W (x.y*y.z))-(W (x.z*y.y))),W ((W (x.z*y.x))-(W (x.x*y.z))),W ((W (x.x*y.y))-(W (x.y*y.x)))⟩:V3)
structure kd9 where
structure ld0 where
 (is0 is1:Int)
structure Ud8 where
 M4:PLq
 (f0 e8 g7 n4:Int)
structure Ud9 where
 is5:Int
structure td9 where
 Fe6:List Pt
 (f0 e8 g7 n4:Int)
structure bd3 where
 M4:PLq
 (is4 is5:Int)
structure bd4 where
 ph:Nat
 is6:Int
 ns3:Nat
 eh0:List (List a7)
structure bd5 where
 is4:Int
structure bd6 where
 ph:Nat
 M4:PLq
 is5:Int
 ns3:Nat
 eh0:List (List a7)
structure bd8 where
 ph:Nat
 M4:PLq
 is4:Int
 ns3:Nat
 eh0:List (List a7)
def oa0(x:Int):ROq:=(sl (decide (x<0)) (some (i (W (0-x)),[])) (some (i x,[])))
def ba5(x:Int):Int:=N4 (one r1I) (oa0 x)
def ba6(x:Int):Bool:=okO (one r1I) (oa0 x)
structure ea6 where
 (is6 f0 e8 g7 ta5 gb2 Sc5:Int)
structure L4 where
 (is5 is7:Int)
def Da1{α:Type}(k:L4->α)(e:Nat->α)(z:α)(p:ea6)(s:L4):α:=(sl (decide (s.is7>0)) (sl (s.is7==0) z (k ⟨s.is7,Int.tmod s.is5 s.is7⟩)) (e 1))
def S1(p:ea6)(s:L4):Stp L4:=Da1 .next .exit .fail p s
def Sa7(x:V3):ROq:=let y0:=(.tup [.agg [i 0,i 0,i 0],i 0],[]);let t1:=(ba5 x.x);let t2:=(lp (S1 (⟨0,x.x,x.y,x.z,x.x,x.y,x.z⟩:ea6)) (⟨0,t1⟩:L4));let t3:=(ba5 x.y);let t4:=(lp (S1 (⟨1,x.x,x.y,x.z,x.x,x.y,x.z⟩:ea6)) (⟨t2.2.is5,t3⟩:L4));let t5:=(ba5 x.z);let t6:=(lp (S1 (⟨2,x.x,x.y,x.z,x.x,x.y,x.z⟩:ea6)) (⟨t4.2.is5,t5⟩:L4));(sl (x.x==(-9223372036854775808)) (some y0) (sl (ba6 x.x) (sl (Nat.beq t2.1 1) (sl (x.y==(-9223372036854775808)) (some y0) (sl (ba6 x.y) (sl (Nat.beq t4.1 1) (sl (x.z==(-9223372036854775808)) (some y0) (sl (ba6 x.z) (sl (Nat.beq t6.1 1) (sl (t6.2.is5==0) (some y0) (sl (t6.2.is5==0) none (sl (t6.2.is5==0) none (sl (t6.2.is5==0) none (some (.tup [.agg [i (W (Int.tdiv x.x t6.2.is5)),i (W (Int.tdiv x.y t6.2.is5)),i (W (Int.tdiv x.z t6.2.is5))],i t6.2.is5],[])))))) none) none)) none) none)) none) none))
def ra2(x:V3):V3×Int:=N4 (two r1V r1I) (Sa7 x)
def Sa8(x:V3):Bool:=okO (two r1V r1I) (Sa7 x)
def Ia0(x:Pln):ROq:=let t1:=(ra2 x.n);(sl (decide (x.n.x<(-4608))) (some (b false,[])) (sl (decide (x.n.x>4608)) (some (b false,[])) (sl (decide (x.n.y<(-4608))) (some (b false,[])) (sl (decide (x.n.y>4608)) (some (b false,[])) (sl (decide (x.n.z<(-4608))) (some (b false,[])) (sl (decide (x.n.z>4608)) (some (b false,[])) (sl (Sa8 x.n) (sl (t1.2==1) (sl (decide (x.b>=(-2097152))) (some (b (decide (x.b<=2097152)),[])) (some (b false,[]))) (some (b false,[]))) none)))))))
def yc7(x:Pln):Bool:=N4 (one r1B) (Ia0 x)
def ab5(x:Pln):Bool:=okO (one r1B) (Ia0 x)
structure ud1 where
 M4:PLq
structure ud2 where
 is3:Int
structure Ad4 where
 M4:PLq
 ue5:List Pt
 is4:Int
structure Ad5 where
 bs5:Bool
 is6:Int
def Oa1(x:Int)(y:Int):ROq:=(sl (decide (y<1)) (some (i 0,[])) (sl (y==0) none (sl (y==0) none (some (i (Int.tmod (W ((Int.tmod x y)+y)) y),[])))))
def ea7(x:Int)(y:Int):Int:=N4 (one r1I) (Oa1 x y)
def T3(x:Int)(y:Int):Bool:=okO (one r1I) (Oa1 x y)
def fc8:Sum:=pa5 cI cI (λx y=>.guard (T3 x y) (.ret ((one r1I).enc (ea7 x y),[])))
theorem Ic9:d6 prog G 7 fc8:=rb9 (bd b7 Oa0) (one r1I) (o:=Oa1)
def G5(x:V3)(y:V3):Int:=(W ((W ((W (x.x*y.x))+(W (x.y*y.y))))+(W (x.z*y.z))))
def Ia1:Sum:=pa5 (ha1 tV) (ha1 tV) (λx y=>.ret ((one r1I).enc (G5 x y),[]))
theorem Sa9:d6 prog G 72 Ia1:=yc6 (bd b72 Oa0)
def ab6(x:V3)(y:V3):V3:=(⟨W (x.x+y.x),W (x.y+y.y),W (x.z+y.z)⟩:V3)
def Fb0:Sum:=pa5 (ha1 tV) (ha1 tV) (λx y=>.ret ((one r1V).enc (ab6 x y),[]))
theorem mc9:d6 prog G 20 Fb0:=yc6 (bd b20 Oa0)
def L8(x:V3)(y:V3):V3:=(⟨W ((W (x.y*y.z))-(W (x.z*y.y))),W ((W (x.z*y.x))-(W (x.x*y.z))),W ((W (x.x*y.y))-(W (x.y*y.x)))⟩:V3)
def Ka4:Sum:=pa5 (ha1 tV) (ha1 tV) (λx y=>.ret ((one r1V).enc (L8 x y),[]))
theorem ab7:d6 prog G 73 Ka4:=yc6 (bd b73 Oa0)
structure T4 where
 is0:Int
 Sc6:List Int
 is8:Int
structure A6 where
 is9:Int
def Ia2(p:T4)(s:A6):St:=⟨i p.is0::ra 6 (eL tI p.Sc6::i p.is8::i s.is9::ra 13 []),[]⟩
def V9{α:Type}(k:A6->α)(e:Nat->α)(z:α)(p:T4)(s:A6):α:=(sl (decide (s.is9<p.is8)) (sl (inB s.is9 (List.length p.Sc6)) (sl (decide ((gL tI p.Sc6 s.is9.toNat)<(W (0-p.is0)))) (e 1) (sl (decide ((gL tI p.Sc6 s.is9.toNat)>p.is0)) (e 1) (k ⟨W (s.is9+1)⟩))) z) (e 2))
def R5(p:T4)(s:A6):Stp A6:=V9 .next .exit .fail p s
def ra3:Lo T4 A6:=⟨En tbN,0,Ud7,[1,0,1,4,4],[0,7,8,9],.p,[⟨sIq::ru2 6 (sLq tI::sIq::sIq::ru2 13 []),[],λa H=>(⟨aIq a 0,aLq tI a 7,aIq a 8⟩,⟨aIq a 9⟩)⟩],R5,[(none,λp s=>⟨[b false],[]⟩),(some 0,λp s=>upq (Ia2 p s) [(10,b (decide (s.is9<p.is8)))])],Ia2⟩
theorem sb0:ra3.Ok:=Lo.okq [] .nil λp s=>(.ofq @V9)
def ba7(x:Int)(y:List Int):ROq:=let t1:=(lp (R5 (⟨x,rt tI y,(↑(List.length y):Int)⟩:T4)) (⟨0⟩:A6));(sl ((cnE tI y)&&true) (sl (Nat.beq t1.1 1) (some (b false,[])) (sl (Nat.beq t1.1 2) (some (b true,[])) none)) none)
def T5(x:Int)(y:List Int):Bool:=N4 (one r1B) (ba7 x y)
def T6(x:Int)(y:List Int):Bool:=okO (one r1B) (ba7 x y)
def Da2:Sum:=pa5 cI (ga2 tI) (λx y=>.guard (T6 x y) (.ret ((one r1B).enc (T5 x y),[])))
theorem Va0:d6 prog G 91 Da2:=Sd4 (bd b91 Oa0) (one r1B) (o:=ba7) λx y=>Ha8 (.s .p (.s (.s .p (.b (.u ra3.ls))) .p)) [ra3.pr] (.cons sb0 .nil)
def ea8(x:Int):Int:=(if (W (0-x))>x then (W (0-x)) else x)
def Oa2:Sum:=G9 cI (λx=>.ret ((one r1I).enc (ea8 x),[]))
theorem sb1:d6 prog G 92 Oa2:=kd8 (bd b92 Oa0)
def ra4:List (Nat×Sum):=[(92,Oa2)]
theorem sb2:w7 prog G ra4:=⟨sb1,trivial⟩
structure J1 where
 Ja7:List Int
 (is7 is8:Int)
structure C1 where
 (is3 is5:Int)
def Da3(p:J1)(s:C1):St:=⟨ra 3 (i s.is3::.unk::i s.is5::eL tI p.Ja7::i p.is7::i p.is8::ra 15 []),[]⟩
def S5{α:Type}(k:C1->α)(e:Nat->α)(z:α)(p:J1)(s:C1):α:=(sl (decide (s.is5>0)) (sl (s.is5==0) z (k ⟨s.is5,Int.tmod s.is3 s.is5⟩)) (e 1))
def H8(p:J1)(s:C1):Stp C1:=S5 .next .exit .fail p s
def oa1:Lo J1 C1:=⟨En ra4,0,Pc2,[1,1,0,1,4,4,1,1,0,4,1,1,1,4,4],[3,5,6,7,8],.p,[⟨ru2 3 (sIq::sUq::sIq::sLq tI::sIq::sIq::ru2 15 []),[],λa H=>(⟨aLq tI a 6,aIq a 7,aIq a 8⟩,⟨aIq a 3,aIq a 5⟩)⟩],H8,[(some 2,λp s=>upq (Da3 p s) [(16,i s.is5),(17,b (decide (s.is5>0)))])],Da3⟩
theorem nb1:oa1.Ok:=Lo.okq [] .nil λp s=>(.ofq @S5)
structure R6 where
 is7:Int
structure w4 where
 is3:Int
 Ja7:List Int
 is8:Int
def Da4(p:R6)(s:w4):St:=⟨ra 3 (i s.is3::.unk::.unk::eL tI s.Ja7::i p.is7::i s.is8::ra 15 []),[]⟩
def S6{α:Type}(k:w4->α)(e:Nat->α)(z:α)(p:R6)(s:w4):α:=let t1:=(ea8 (gL tI s.Ja7 s.is8.toNat));let t2:=(lp (H8 (⟨rt tI s.Ja7,p.is7,s.is8⟩:J1)) (⟨s.is3,t1⟩:C1));(sl (decide (s.is8<p.is7)) (sl (inB s.is8 (List.length s.Ja7)) (sl ((gL tI s.Ja7 s.is8.toNat)==(-9223372036854775808)) (e 1) (sl ((cnE tI s.Ja7)&&true) (sl (Nat.beq t2.1 1) (k ⟨t2.2.is3,rt tI s.Ja7,W (s.is8+1)⟩) z) z)) z) (e 2))
def N5(p:R6)(s:w4):Stp w4:=S6 .next .exit .fail p s
def oa2:Lo R6 w4:=⟨En ra4,0,Pc2,[1,1,0,1,4,4],[3,6,7,8],.s .p (.s .p (.s (.b (.s .p (.s .p (.s .p (.b (.u oa1.ls)))))) .p)),[⟨ru2 3 (sIq::sUq::sUq::sLq tI::sIq::sIq::ru2 15 []),[],λa H=>(⟨aIq a 7⟩,⟨aIq a 3,aLq tI a 6,aIq a 8⟩)⟩],N5,[(none,λp s=>⟨[i 0],[]⟩),(some 0,λp s=>upq (Da4 p s) [(9,b (decide (s.is8<p.is7)))])],Da4⟩
theorem nb2:oa2.Ok:=Lo.okq [oa1.pr] (.cons nb1 .nil) λp s=>(.ofq @S6)
def X5(x:List Int):ROq:=let t1:=(lp (N5 (⟨(↑(List.length x):Int)⟩:R6)) (⟨0,rt tI x,0⟩:w4));(sl ((cnE tI x)&&true) (sl (Nat.beq t1.1 1) (some (i 0,[])) (sl (Nat.beq t1.1 2) (some (i t1.2.is3,[])) none)) none)
def K2(x:List Int):Int:=N4 (one r1I) (X5 x)
def K3(x:List Int):Bool:=okO (one r1I) (X5 x)
def wa2:Sum:=G9 (ga2 tI) (λx=>.guard (K3 x) (.ret ((one r1I).enc (K2 x),[])))
theorem Oa3:d6 prog G 122 wa2:=lc5 (bd ne9 sb2) (one r1I) (o:=X5) λx=>Ha8 (.s .p (.s .p (.s (.s .p (.b (.u oa2.ls))) .p))) [oa2.pr] (.cons nb2 .nil)
def Tb2:List (Nat×Sum):=[(91,Da2),(122,wa2)]
theorem Hb6:w7 prog G Tb2:=⟨Va0,Oa3,trivial⟩
def ha2(x:Pln):ROq:=let t1:=(T5 4608 [x.n.x,x.n.y,x.n.z]);let t2:=(K2 [x.n.x,x.n.y,x.n.z]);let t3:=(T5 2097152 [x.b]);(sl (T6 4608 [x.n.x,x.n.y,x.n.z]) (sl t1 (sl (K3 [x.n.x,x.n.y,x.n.z]) (sl (t2==1) (sl (T6 2097152 [x.b]) (some (b t3,[])) none) (some (b false,[]))) none) (some (b false,[]))) none)
def sa6(x:Pln):Bool:=N4 (one r1B) (ha2 x)
def sa7(x:Pln):Bool:=okO (one r1B) (ha2 x)
def jb0:Sum:=G9 (ha1 tP) (λx=>.guard (sa7 x) (.ret ((one r1B).enc (sa6 x),[])))
theorem Tb3:d6 prog G 90 jb0:=Na9 (bd b90 Hb6) (one r1B) (o:=ha2)
def ha3(x:Int)(y:Int):ROq:=(sl (decide (x<y)) (some (i (-1),[])) (sl (decide (x>y)) (some (i 1,[])) (some (i 0,[]))))
def L9(x:Int)(y:Int):Int:=N4 (one r1I) (ha3 x y)
def M0(x:Int)(y:Int):Bool:=okO (one r1I) (ha3 x y)
def Ka5:Sum:=pa5 cI cI (λx y=>.guard (M0 x y) (.ret ((one r1I).enc (L9 x y),[])))
theorem ab8:d6 prog G 115 Ka5:=rb9 (bd ne8 Oa0) (one r1I) (o:=ha3)
def zb5:List (Nat×Sum):=[(115,Ka5)]
theorem sb3:w7 prog G zb5:=⟨ab8,trivial⟩
def X6(x:Pln)(y:Pln):ROq:=let t1:=(L9 x.n.x y.n.x);let t2:=(L9 x.n.y y.n.y);let t3:=(L9 x.n.z y.n.z);let t4:=(L9 x.b y.b);(sl (M0 x.n.x y.n.x) (sl (t1==0) (sl (M0 x.n.y y.n.y) (sl (t2==0) (sl (M0 x.n.z y.n.z) (sl (t3==0) (sl (M0 x.b y.b) (sl (t4==0) (some (i t4,[])) (some (i t4,[]))) none) (some (i t3,[]))) none) (some (i t2,[]))) none) (some (i t1,[]))) none)
def ja6(x:Pln)(y:Pln):Int:=N4 (one r1I) (X6 x y)
def ja7(x:Pln)(y:Pln):Bool:=okO (one r1I) (X6 x y)
def wa3:Sum:=pa5 (ha1 tP) (ha1 tP) (λx y=>.guard (ja7 x y) (.ret ((one r1I).enc (ja6 x y),[])))
theorem zb6:d6 prog G 114 wa3:=rb9 (bd ye0 sb3) (one r1I) (o:=X6)
def yc8:List (Nat×Sum):=[(91,Da2)]
theorem nc0:w7 prog G yc8:=⟨Va0,trivial⟩
def Da5(x:V3):ROq:=let t1:=(T5 24 [x.x,x.y,x.z]);(sl (T6 24 [x.x,x.y,x.z]) (some (b t1,[])) none)
def ba8(x:V3):Bool:=N4 (one r1B) (Da5 x)
def ba9(x:V3):Bool:=okO (one r1B) (Da5 x)
def Ta0:Sum:=G9 (ha1 tV) (λx=>.guard (ba9 x) (.ret ((one r1B).enc (ba8 x),[])))
theorem ab9:d6 prog G 68 Ta0:=Na9 (bd b68 nc0) (one r1B) (o:=Da5)
structure Vd0 where
 (n4 ve3 ve4 ve5 ve6 ve7:Int)
end Go.Ev.Ce
namespace Go.Proofs
open Go.Shelf
set_option maxRecDepth 100000 in
def Ce.sortLay_ren:Go.Shelf.Ren:=⟨fun | 6=>113 | 15=>147 | 14=>146 | 28=>169 | 29=>170 | 20=>161 | 21=>162 | 22=>163 | 23=>164 | 24=>165 | 25=>166 | 26=>167 | 27=>168 | 46=>183 | 47=>184 | 48=>185 | 49=>186 | 50=>187 | 57=>195 | n=>n,fun | 22=>43 | 24=>66 | 25=>126 | 3=>3 | 39=>172 | 0=>0 | 53=>190 | 55=>192 | 4=>4 | 46=>183 | 45=>182 | 50=>187 | 5=>5 | 9=>9 | 66=>199 | 70=>203 | 76=>214 | 77=>215 | n=>n,fun | n=>n⟩
set_option maxRecDepth 100000 in
theorem Ce.sortLay:Go.Proofs.SlLaysF0.n6 Tryz.prog Ce.sortLay_ren:={
 mixed:=by kernel_rfl
 f6:=⟨Tryz.f113.name,by decide,Tryz.func113.trans (congrArg some (by kernel_rfl))⟩
 f14:=⟨Tryz.f146.name,by decide,Tryz.func146.trans (congrArg some (by kernel_rfl))⟩
 f15:=Tryz.func147.trans (congrArg some (by kernel_rfl))
 f20:=⟨Tryz.f161.name,by decide,Tryz.func161.trans (congrArg some (by kernel_rfl))⟩
 f21:=⟨Tryz.f162.name,by decide,Tryz.func162.trans (congrArg some (by kernel_rfl))⟩
 f22:=⟨Tryz.f163.name,by decide,Tryz.func163.trans (congrArg some (by kernel_rfl))⟩
 f23:=⟨Tryz.f164.name,by decide,Tryz.func164.trans (congrArg some (by kernel_rfl))⟩
 f24:=⟨Tryz.f165.name,by decide,Tryz.func165.trans (congrArg some (by kernel_rfl))⟩
 f25:=⟨Tryz.f166.name,by decide,Tryz.func166.trans (congrArg some (by kernel_rfl))⟩
 f26:=⟨Tryz.f167.name,by decide,Tryz.func167.trans (congrArg some (by kernel_rfl))⟩
 f27:=⟨Tryz.f168.name,by decide,Tryz.func168.trans (congrArg some (by kernel_rfl))⟩
 f28:=Tryz.func169.trans (congrArg some (by kernel_rfl))
 f29:=Tryz.func170.trans (congrArg some (by kernel_rfl))
 f46:=⟨Tryz.f183.name,by decide,Tryz.func183.trans (congrArg some (by kernel_rfl))⟩
 f47:=Tryz.func184.trans (congrArg some (by kernel_rfl))
 f48:=Tryz.func185.trans (congrArg some (by kernel_rfl))
 f49:=⟨Tryz.f186.name,by decide,Tryz.func186.trans (congrArg some (by kernel_rfl))⟩
 f50:=⟨Tryz.f187.name,by decide,Tryz.func187.trans (congrArg some (by kernel_rfl))⟩
 f57:=⟨Tryz.f195.name,by decide,Tryz.func195.trans (congrArg some (by kernel_rfl))⟩
 t0:=Tryz.underlying0
 a0:=Tryz.isAgg0
 z0:=Tryz.sizeOf0
 v0:=Tryz.zeroValue0
 t3:=Tryz.underlying3
 a3:=Tryz.isAgg3
 z3:=Tryz.sizeOf3
 v3:=Tryz.zeroValue3
 t4:=Tryz.underlying4
 a4:=Tryz.isAgg4
 z4:=Tryz.sizeOf4
 v4:=Tryz.zeroValue4
 t5:=Tryz.underlying5
 a5:=Tryz.isAgg5
 z5:=Tryz.sizeOf5
 v5:=Tryz.zeroValue5
 t9:=Tryz.underlying9
 a9:=Tryz.isAgg9
 z9:=Tryz.sizeOf9
 v9:=Tryz.zeroValue9
 t22:=Tryz.underlying43
 a22:=Tryz.isAgg43
 z22:=Tryz.sizeOf43
 v22:=Tryz.zeroValue43
 t25:=Tryz.underlying126
 a25:=Tryz.isAgg126
 z25:=Tryz.sizeOf126
 v25:=Tryz.zeroValue126
 t39:=Tryz.underlying172
 a39:=Tryz.isAgg172
 z39:=Tryz.sizeOf172
 v39:=Tryz.zeroValue172
 t45:=Tryz.underlying182
 a45:=Tryz.isAgg182
 z45:=Tryz.sizeOf182
 v45:=Tryz.zeroValue182
 t46:=Tryz.underlying183
 a46:=Tryz.isAgg183
 z46:=Tryz.sizeOf183
 v46:=Tryz.zeroValue183
 t50:=Tryz.underlying187
 a50:=Tryz.isAgg187
 z50:=Tryz.sizeOf187
 v50:=Tryz.zeroValue187
 t53:=Tryz.underlying190
 a53:=Tryz.isAgg190
 z53:=Tryz.sizeOf190
 v53:=Tryz.zeroValue190
 t55:=Tryz.underlying192
 a55:=Tryz.isAgg192
 z55:=Tryz.sizeOf192
 v55:=Tryz.zeroValue192
 t66:=Tryz.underlying199
 a66:=Tryz.isAgg199
 z66:=Tryz.sizeOf199
 v66:=Tryz.zeroValue199
 t70:=Tryz.underlying203
 a70:=Tryz.isAgg203
 z70:=Tryz.sizeOf203
 v70:=Tryz.zeroValue203
 t76:=Tryz.underlying214
 a76:=Tryz.isAgg214
 z76:=Tryz.sizeOf214
 v76:=Tryz.zeroValue214
 t77:=Tryz.underlying215
 a77:=Tryz.isAgg215
 z77:=Tryz.sizeOf215
 v77:=Tryz.zeroValue215 }
end Go.Proofs
namespace Go.Ev.Ce
open Go Go.Ev Go.Ev.L Go.Proofs Go.Sort
def Ka6(x y:Int):Int:=if x<y then -1 else if x>y then 1 else 0
def Ka7(x y:Pln):Int :=
 if Ka6 x.n.x y.n.x=0 then if Ka6 x.n.y y.n.y=0 then if Ka6 x.n.z y.n.z=0 then Ka6 x.b y.b else Ka6 x.n.z y.n.z else Ka6 x.n.y y.n.y else Ka6 x.n.x y.n.x
theorem Ta1(x y:Int):Ka6 x y<0↔x<y:=by unfold Ka6;split<;>(try split)<;>omega
theorem sb4(x y:Int):Ka6 x y=0↔x=y:=by unfold Ka6;split<;>(try split)<;>omega
def LtP(x y:Pln):Prop:=x.n.x<y.n.x\/x.n.x=y.n.x/\(x.n.y<y.n.y\/x.n.y=y.n.y/\(x.n.z<y.n.z\/x.n.z=y.n.z/\x.b<y.b))
instance(x y:Pln):Decidable (LtP x y):=by unfold LtP;exact inferInstance
theorem nc1(x y:Pln):Ka7 x y<0↔LtP x y:=by
 have h1:=Ta1 x.n.x y.n.x;have h2:=sb4 x.n.x y.n.x;have h3:=Ta1 x.n.y y.n.y;have h4:=sb4 x.n.y y.n.y;have h5:=Ta1 x.n.z y.n.z;have h6:=sb4 x.n.z y.n.z;have h7:=Ta1 x.b y.b;unfold Ka7 LtP;split
 ·split
  ·split<;>omega
  ·omega
 ·omega
theorem ra5(x y:Pln):ltOf Ka7 x y=decide (LtP x y):=by
 unfold ltOf;rw[decide_eq_decide];exact nc1 x y
theorem oe7:SWO (ltOf Ka7) where
 irrefl x:=by rw[ra5];simp[LtP]
 trans x y z h1 h2:=by rw[ra5,decide_eq_true_eq] at *;unfold LtP at *;omega
 ntrans x y z h1 h2:=by rw[ra5,decide_eq_false_iff_not] at *;unfold LtP at *;omega
theorem Ae9(x y:Pln)(h1:ltOf Ka7 x y=false)(h2:ltOf Ka7 y x=false):x=y:=by
 rw[ra5,decide_eq_false_iff_not] at *
 unfold LtP at *
 obtain⟨⟨a,b,c⟩,d⟩:=x;obtain⟨⟨a',b',c'⟩,d'⟩:=y
 simp only at *
 have:a=a'/\b=b'/\c=c'/\d=d':=by omega
 obtain⟨rfl,rfl,rfl,rfl⟩:=this;rfl
theorem yc9(x y:Int):ha3 x y=some (i (Ka6 x y),[]):=by
 unfold ha3 Ka6;simp only[mb7,decide_eq_true_eq]
 split<;>(try split)<;>rfl
theorem Pc4(x y:Int):L9 x y=Ka6 x y:=by unfold L9;rw[yc9];rfl
theorem Pc5(x y:Int):M0 x y=true:=by unfold M0;rw[yc9];rfl
theorem Tb4(x y:Pln):X6 x y=some (i (Ka7 x y),[]):=by
 unfold X6 Ka7;simp only[Pc4,Pc5,mb7,beq_iff_eq,if_true]
 repeat' (first | rfl | split)
theorem oe8(x y:Pln):ja6 x y=Ka7 x y:=by unfold ja6;rw[Tb4];rfl
theorem oe9(x y:Pln):ja7 x y=true:=by unfold ja7;rw[Tb4];rfl
theorem pe0(x y:Pln):(wa3 [.agg (tP.row x),.agg (tP.row y)] []).run=some (i (Ka7 x y),[]):=by
 have:(wa3 [.agg (tP.row x),.agg (tP.row y)] []).run=sel (ja7 x y) (some (i (ja6 x y),[])) none:=by kernel_rfl
 rw[this,oe9,oe8]
def zb1(p:Pln):List Value:=[.int .i64 p.n.x,.int .i64 p.n.y,.int .i64 p.n.z,.int .i64 p.b]
instance:Inhabited Pln:=⟨⟨⟨0,0,0⟩,0⟩⟩
def jb1(l:PLq):PLq:=l.mergeSort λx y=>!ltOf Ka7 y x
theorem fb4(l:PLq):(jb1 l).length=l.length:=Qhb l
def la7:Sum:=Oc1 tP 114 66 jb1
theorem ld1:Ce.sortLay_ren.f 6=113:=by kernel_rfl
theorem fc9:Ce.sortLay_ren.t 24=66:=by kernel_rfl
set_option maxRecDepth 100000 in
theorem Ka8:d6 prog G 113 la7:=by
 refine Oc2 (enc:=zb1) (cf:=Ka7) ⟨_,Tryz.func113,by kernel_rfl,of_decide_eq_true (by kernel_rfl)⟩ (by decide) (λ_=>rfl) (λr h=>qa7 (n:=4) h) (λx v hv=>?_) fb4
  (λblk off size w=>Oc0 zb6 pe0 (λ_=>rfl) (λ_=>rfl) _ _ _ _ _) (λblk cap d w hcl hH hb hs=>?_)
 ·simp[zb1] at hv
  rcases hv with rfl|rfl|rfl|rfl<;>rfl
 ·have eg:∀args w,(callFunc 114 args).run Tryz.prog w=.ok (.enter 114 args) w:=enters_of Tryz.func114 (by kernel_rfl) rfl
  have:=AnyQ.slices_SortFunc Ce.sortLay 4 (by rw[fc9];exact Tryz.isAgg66) (by rw[fc9];exact Tryz.sizeOf66) zb1 (λ_=>rfl) (λx v hv=>by simp[zb1] at hv;rcases hv with rfl | rfl | rfl | rfl<;>rfl) Ka7 oe7 114 #[] blk 0 cap d w eg (hcl 0 d.size) hH hb hs
  rw[ld1] at this;refine this.mono λe w' ⟨h1,d',n,os,h2,h3,h4⟩=>⟨h1,n,os,?_⟩
  have h5:=sorted_unique_holds oe7 Ae9 d d' h2 h3;rw[h4];show _=sortWorldK zb1 4 w blk 0 n (d.toList.mergeSort λx y=>!ltOf Ka7 y x).toArray os
  rw[<- h5]
end Go.Ev.Ce
namespace Go.Ev.Ce
open Go Go.Ev Go.Ev.L Go.Proofs
set_option maxRecDepth 100000
structure bd9 where
 is1:Int
 Db3:List Int
 e8:Int
structure cd0 where
 alt:Nat
 (is0 e8:Int)
structure ee4 where
 is1:Int
 Db3:List Int
 e8:Int
structure ee5 where
 alt:Nat
 (Qa3 Qa4 Qa5:Int)
 Db3:List Int
 e8:Int
def Ba7(x:V3)(y:V3):V3:=(⟨W (x.x-y.x),W (x.y-y.y),W (x.z-y.z)⟩:V3)
def sb5(x:V3):ROq:=(sl (decide (x.x<(-24))) (some (b false,[])) (sl (decide (x.x>24)) (some (b false,[])) (sl (decide (x.y<(-24))) (some (b false,[])) (sl (decide (x.y>24)) (some (b false,[])) (sl (decide (x.z<(-24))) (some (b false,[])) (sl (decide (x.z>24)) (some (b false,[])) (some (b true,[]))))))))
def Oa4(x:V3):Bool:=N4 (one r1B) (sb5 x)
def Oa5(x:V3):Bool:=okO (one r1B) (sb5 x)
def sa8(x:V3)(y:V3)(z:V3):ROq:=let y0:=(.tup [.agg [i 0,i 0,i 0,i 0],b false],[]);let t1:=(Oa4 x);let t2:=(Oa4 y);let t3:=(Oa4 z);let t4:=(Ba7 y x);let t5:=(Ba7 z x);let t6:=(Ha9 t4 t5);let t7:=(ra2 t6);let t8:=(fb3 t7.1 x);(sl (Oa5 x) (sl (!t1) (some y0) (sl (Oa5 y) (sl (!t2) (some y0) (sl (Oa5 z) (sl (!t3) (some y0) (sl (Sa8 t6) (sl (t7.2==0) (some y0) (some (.tup [.agg [i t7.1.x,i t7.1.y,i t7.1.z,i t8],b true],[]))) none)) none)) none)) none)
def Yb4(x:V3)(y:V3)(z:V3):Pln×Bool:=N4 (two r1P r1B) (sa8 x y z)
def Ka9(x:V3)(y:V3)(z:V3):Bool:=okO (two r1P r1B) (sa8 x y z)
def Ta2(x:Pln)(y:V3):ROq:=let t1:=(yc7 x);let t2:=(Oa4 y);let t3:=(fb3 x.n y);(sl (ab5 x) (sl (!t1) (some (i 0,[])) (sl (Oa5 y) (sl (!t2) (some (i 0,[])) (sl (decide ((W (t3-x.b))<0)) (some (i (-1),[])) (sl (decide ((W (t3-x.b))>0)) (some (i 1,[])) (some (i 0,[]))))) none)) none)
def Jc0(x:Pln)(y:V3):Int:=N4 (one r1I) (Ta2 x y)
def Tb5(x:Pln)(y:V3):Bool:=okO (one r1I) (Ta2 x y)
structure cd1 where
 (f0 e8 g7 n4 W9 X0 X1 ve8:Int)
structure cd2 where
 is7:Int
structure oa3 where
 l6:List V3
 (is3 is4 is5:Int)
 bs7:Bool
 (f0 e8 g7 n4:Int)
structure ea9 where
 is8:Int
def Da6{α:Type}(k:ea9->α)(e:Nat->α)(z:α)(p:oa3)(s:ea9):α:=let y0:=(⟨(⟨p.f0,p.e8,p.g7⟩:V3),p.n4⟩:Pln);let t1:=(Jc0 y0 (gL tV p.l6 s.is8.toNat));(sl (decide (s.is8<(↑(List.length p.l6):Int))) (sl p.bs7 (sl (inB s.is8 (List.length p.l6)) (sl (Tb5 y0 (gL tV p.l6 s.is8.toNat)) (sl (t1 != 0) (e 1) (k ⟨W (s.is8+1)⟩)) z) z) (e 2)) (e 3))
def ha4(p:oa3)(s:ea9):Stp ea9:=Da6 .next .exit .fail p s
structure Ta3 where
 (is3 is4:Int)
structure fa0 where
 l6:List V3
 is5:Int
def Da7{α:Type}(k:fa0->α)(e:Nat->α)(z:α)(p:Ta3)(s:fa0):α:=let y0:=(List.length s.l6);let t1:=(Yb4 (gL tV s.l6 p.is3.toNat) (gL tV s.l6 p.is4.toNat) (gL tV s.l6 s.is5.toNat));let t2:=(lp (ha4 (⟨rt tV s.l6,p.is3,p.is4,s.is5,t1.2,t1.1.n.x,t1.1.n.y,t1.1.n.z,t1.1.b⟩:oa3)) (⟨0⟩:ea9));(sl (decide (s.is5<p.is4)) (sl (inB p.is3 y0) (sl (inB p.is4 y0) (sl (inB s.is5 y0) (sl (Ka9 (gL tV s.l6 p.is3.toNat) (gL tV s.l6 p.is4.toNat) (gL tV s.l6 s.is5.toNat)) (sl ((cnE tV s.l6)&&true) (sl (Nat.beq t2.1 1) (e 1) (sl (Nat.beq t2.1 2) (k ⟨rt tV s.l6,W (s.is5+1)⟩) (sl (Nat.beq t2.1 3) (k ⟨rt tV s.l6,W (s.is5+1)⟩) z))) z) z) z) z) z) (e 2))
def ha5(p:Ta3)(s:fa0):Stp fa0:=Da7 .next .exit .fail p s
structure Ta4 where
 is3:Int
structure fa1 where
 l6:List V3
 is4:Int
def Da8{α:Type}(k:fa1->α)(e:Nat->α)(z:α)(p:Ta4)(s:fa1):α:=let t1:=(lp (ha5 (⟨p.is3,s.is4⟩:Ta3)) (⟨rt tV s.l6,0⟩:fa0));(sl (decide (s.is4<p.is3)) (sl ((cnE tV s.l6)&&true) (sl (Nat.beq t1.1 1) (e 1) (sl (Nat.beq t1.1 2) (k ⟨t1.2.l6,W (s.is4+1)⟩) z)) z) (e 2))
def ha6(p:Ta4)(s:fa1):Stp fa1:=Da8 .next .exit .fail p s
structure Ta5 where
structure fa2 where
 l6:List V3
 is3:Int
def Da9{α:Type}(k:fa2->α)(e:Nat->α)(z:α)(p:Ta5)(s:fa2):α:=let t1:=(lp (ha6 (⟨s.is3⟩:Ta4)) (⟨rt tV s.l6,0⟩:fa1));(sl (decide (s.is3<(↑(List.length s.l6):Int))) (sl ((cnE tV s.l6)&&true) (sl (Nat.beq t1.1 1) (e 1) (sl (Nat.beq t1.1 2) (k ⟨t1.2.l6,W (s.is3+1)⟩) z)) z) (e 2))
def ha7(p:Ta5)(s:fa2):Stp fa2:=Da9 .next .exit .fail p s
def Tb6(x:List V3):ROq:=let t1:=(lp (ha7 (⟨⟩:Ta5)) (⟨rt tV x,0⟩:fa2));(sl ((cnE tV x)&&true) (sl (Nat.beq t1.1 1) (some (b false,[])) (sl (Nat.beq t1.1 2) (some (b true,[])) none)) none)
structure ud3 where
 l6:List V3
structure ud4 where
 is3:Int
structure ud5 where
 Fe7:List V3
 (f0 e8 g7 n4:Int)
structure ud6 where
 is5:Int
structure Md9 where
 M4:PLq
 (f0 e8 g7 n4:Int)
structure Nd0 where
 is5:Int
structure ud7 where
 l6:List V3
 (is6 is7:Int)
structure ud8 where
 ph:Nat
 is8:Int
 Qd3:PLq
structure ud9 where
 is6:Int
structure vd0 where
 ph:Nat
 l6:List V3
 is7:Int
 Qd3:PLq
structure vd1 where
structure vd2 where
 ph:Nat
 l6:List V3
 is6:Int
 Qd3:PLq
structure ld2 where
 is4:Int
structure ld3 where
 ph:Nat
 is6:Int
 Db3:List Int
 e8:Int
 ns5:Nat
 eh1:List (List a7)
structure Ad8 where
 (M4 ue6:PLq)
structure Ad9 where
 is5:Int
def ca0(x:V3)(y:V3):V3:=(⟨W (x.x-y.x),W (x.y-y.y),W (x.z-y.z)⟩:V3)
def bb0:Sum:=pa5 (ha1 tV) (ha1 tV) (λx y=>.ret ((one r1V).enc (ca0 x y),[]))
theorem sb6:d6 prog G 40 bb0:=yc6 (bd b40 Oa0)
def Yb5:List (Nat×Sum):=[(40,bb0)]
theorem Tb7:w7 prog G Yb5:=⟨sb6,trivial⟩
def fa3(x:Pln):Pln:=let t1:=(ca0 (⟨0,0,0⟩:V3) x.n);(⟨t1,W (0-x.b)⟩:Pln)
def sb7:Sum:=G9 (ha1 tP) (λx=>.ret ((one r1P).enc (fa3 x),[]))
theorem Yb6:d6 prog G 144 sb7:=kd8 (bd ze2 Tb7)
def Yb7:List (Nat×Sum):=[(122,wa2)]
theorem Tb8:w7 prog G Yb7:=⟨Oa3,trivial⟩
def oa4(x:V3):ROq:=let t1:=(K2 [x.x,x.y,x.z]);(sl (K3 [x.x,x.y,x.z]) (sl (t1==0) (some (.tup [.agg [i 0,i 0,i 0],i 0],[])) (sl (t1==0) none (sl (t1==0) none (sl (t1==0) none (some (.tup [.agg [i (W (Int.tdiv x.x t1)),i (W (Int.tdiv x.y t1)),i (W (Int.tdiv x.z t1))],i t1],[])))))) none)
def fa4(x:V3):V3×Int:=N4 (two r1V r1I) (oa4 x)
def za3(x:V3):Bool:=okO (two r1V r1I) (oa4 x)
def sb8:Sum:=G9 (ha1 tV) (λx=>.guard (za3 x) (.ret ((two r1V r1I).enc (fa4 x),[])))
theorem Yb8:d6 prog G 160 sb8:=Na9 (bd oe2 Tb8) (two r1V r1I) (o:=oa4)
def zb7:List (Nat×Sum):=[(68,Ta0),(40,bb0),(73,Ka4),(160,sb8),(72,Ia1)]
theorem sb9:w7 prog G zb7:=⟨ab9,sb6,ab7,Yb8,Sa9,trivial⟩
def X7(x:V3)(y:V3)(z:V3):ROq:=let y0:=(.tup [.agg [i 0,i 0,i 0,i 0],b false],[]);let t1:=(ba8 x);let t2:=(ba8 y);let t3:=(ba8 z);let t4:=(ca0 y x);let t5:=(ca0 z x);let t6:=(L8 t4 t5);let t7:=(fa4 t6);let t8:=(G5 t7.1 x);(sl (ba9 x) (sl (!t1) (some y0) (sl (ba9 y) (sl (!t2) (some y0) (sl (ba9 z) (sl (!t3) (some y0) (sl (za3 t6) (some (.tup [.agg [i t7.1.x,i t7.1.y,i t7.1.z,i t8],b (decide (t7.2>0))],[])) none)) none)) none)) none)
def A0(x:V3)(y:V3)(z:V3):Pln×Bool:=N4 (two r1P r1B) (X7 x y z)
def Q5(x:V3)(y:V3)(z:V3):Bool:=okO (two r1P r1B) (X7 x y z)
def wa4:Sum:=Hb3 (ha1 tV) (ha1 tV) (ha1 tV) (λx y z=>.guard (Q5 x y z) (.ret ((two r1P r1B).enc (A0 x y z),[])))
theorem Oa6:d6 prog G 143 wa4:=oe4 (bd ze1 sb9) (two r1P r1B) (o:=X7)
def Yb9:List (Nat×Sum):=[(90,jb0),(68,Ta0),(72,Ia1),(115,Ka5)]
theorem Tb9:w7 prog G Yb9:=⟨Tb3,ab9,Sa9,ab8,trivial⟩
def oa5(x:Pln)(y:V3):ROq:=let t1:=(sa6 x);let t2:=(ba8 y);let t3:=(G5 x.n y);let t4:=(L9 t3 x.b);(sl (sa7 x) (sl (!t1) (some (i 0,[])) (sl (ba9 y) (sl (!t2) (some (i 0,[])) (sl (M0 t3 x.b) (some (i t4,[])) none)) none)) none)
def W0(x:Pln)(y:V3):Int:=N4 (one r1I) (oa5 x y)
def W4(x:Pln)(y:V3):Bool:=okO (one r1I) (oa5 x y)
def za4:Sum:=pa5 (ha1 tP) (ha1 tV) (λx y=>.guard (W4 x y) (.ret ((one r1I).enc (W0 x y),[])))
theorem La0:d6 prog G 74 za4:=rb9 (bd b74 Tb9) (one r1I) (o:=oa5)
structure La1 where
 (Qa3 Qa4 Qa5 f0 e8 g7 n4:Int)
def Ub0:List (Nat×Sum):=[(74,za4)]
theorem Hb7:w7 prog G Ub0:=⟨La0,trivial⟩
structure La2 where
 alt:Nat
 bs0:Bool
def La3{α:Type}(kk:La2->α)(x:La1):α:=let y1:=(⟨x.Qa3,x.Qa4,x.Qa5⟩:V3);let y0:=(⟨(⟨x.f0,x.e8,x.g7⟩:V3),x.n4⟩:Pln);let t1:=(W0 y0 y1);(sl (W4 y0 y1) (kk ⟨1,t1 != 0⟩) (kk ⟨0,false⟩))
def sa9(x:La1):La2:=La3 (λr=>r) x
def bb1(x:La1)(r:La2):DT (a7×List a8):=(gb7 r.alt 1 (b r.bs0,[bq 0 4 [[i x.f0,i x.e8,i x.g7,i x.n4]]]) .fail)
def jb2:Sum:=Sa0 ⟨[.agg (kLq 3),sPq 0],[⟨0,4,true,some [kLq 4]⟩],λa H=>(⟨cIq a 0 0,cIq a 0 1,cIq a 0 2,hIq H 0 0 0,hIq H 0 0 1,hIq H 0 0 2,hIq H 0 0 3⟩,())⟩ (λx=>bb1 x (sa9 x))
theorem Ub1:d6 prog G 155 jb2:=R4 (enc:=λx=>⟨[.agg [i x.Qa3,i x.Qa4,i x.Qa5],.ptr 0 0 0 0],[bq 0 4 [[i x.f0,i x.e8,i x.g7,i x.n4]]]⟩) (λa H=>by kernel_rfl) (bd ze5 Hb7) λx=>ya6 (mEq @La3 (λr=>(bb1 x r).run) x)
structure T7 where
 l6:List V3
 (f0 e8 g7 n4:Int)
def ha8:List (Nat×Sum):=[(155,jb2)]
theorem Fa8:w7 prog G ha8:=⟨Ub1,trivial⟩
structure A9 where
 l6:List V3
 (is7 f0 e8 g7 n4:Int)
structure k8 where
 is8:Int
def ca1(p:A9)(s:k8):St:=⟨eL tV p.l6::.fn 155 [.ptr 0 0 0 0]::ra 5 (i p.is7::i s.is8::ra 10 []),[bq 0 4 [[i p.f0,i p.e8,i p.g7,i p.n4]]]⟩
def D5{α:Type}(k:k8->α)(e:Nat->α)(z:α)(p:A9)(s:k8):α:=let y0:=(gL tV p.l6 s.is8.toNat);let t1:=(sa9 ⟨y0.x,y0.y,y0.z,p.f0,p.e8,p.g7,p.n4⟩);(sl (decide (s.is8<p.is7)) (sl (inB s.is8 (List.length p.l6)) (sl (Nat.beq t1.alt 1) (sl t1.bs0 (e 1) (k ⟨W (s.is8+1)⟩)) z) z) (e 2))
def w9(p:A9)(s:k8):Stp k8:=D5 .next .exit .fail p s
def P2:Lo A9 k8:=⟨En ha8,1,fc6,[1,0,1,4,4],[0,1,7,8],.p,[⟨sLq tV::.fn 155 [.o (.ptr 0 0 0 0)]::ru2 5 (sIq::sIq::ru2 10 []),[⟨0,4,true,some [kLq 4]⟩],λa H=>(⟨aLq tV a 0,aIq a 7,hIq H 0 0 0,hIq H 0 0 1,hIq H 0 0 2,hIq H 0 0 3⟩,⟨aIq a 8⟩)⟩],w9,[(none,λp s=>⟨[i s.is8],[bq 0 4 [[i p.f0,i p.e8,i p.g7,i p.n4]]]⟩),(some 0,λp s=>upq (ca1 p s) [(9,b (decide (s.is8<p.is7)))])],ca1⟩
theorem Ea0:P2.Ok:=Lo.okq [] .nil λp s=>(.ofq @D5)
structure T8 where
 alt:Nat
 is0:Int
def T9{α:Type}(kk:T8->α)(x:T7):α:=let t1:=(lp (w9 (⟨rt tV x.l6,(↑(List.length x.l6):Int),x.f0,x.e8,x.g7,x.n4⟩:A9)) (⟨0⟩:k8));(sl ((cnE tV x.l6)&&true) (sl (Nat.beq t1.1 1) (kk ⟨1,t1.2.is8⟩) (sl (Nat.beq t1.1 2) (kk ⟨1,-1⟩) (kk ⟨0,0⟩))) (kk ⟨0,0⟩))
def J2(x:T7):T8:=T9 (λr=>r) x
def ha9(x:T7)(r:T8):DT (a7×List a8):=(gb7 r.alt 1 (i r.is0,[bq 0 4 [[i x.f0,i x.e8,i x.g7,i x.n4]]]) .fail)
def la8:Sum:=Sa0 ⟨[sLq tV,.fn 155 [.o (.ptr 0 0 0 0)]],[⟨0,4,true,some [kLq 4]⟩],λa H=>(⟨aLq tV a 0,hIq H 0 0 0,hIq H 0 0 1,hIq H 0 0 2,hIq H 0 0 3⟩,())⟩ (λx=>ha9 x (J2 x))
theorem La4:d6 prog G 131 la8:=R4 (enc:=λx=>⟨[eL tV x.l6,.fn 155 [.ptr 0 0 0 0]],[bq 0 4 [[i x.f0,i x.e8,i x.g7,i x.n4]]]⟩) (λa H=>by kernel_rfl) (bd kd7 Fa8) λx=>Ha8 (.s .p (.s (.s .p (.b (.u P2.ls))) .p)) [P2.pr] (.cons Ea0 .nil) (mEq @T9 (λr=>(ha9 x r).run) x)
def za5:List (Nat×Sum):=[(131,la8)]
theorem wa5:w7 prog G za5:=⟨La4,trivial⟩
def N8{α:Type}(kk:La2->α)(x:T7):α:=let t1:=(J2 ⟨rt tV x.l6,x.f0,x.e8,x.g7,x.n4⟩);(sl ((cnE tV x.l6)&&true) (sl (Nat.beq t1.alt 1) (kk ⟨1,decide (t1.is0>=0)⟩) (kk ⟨0,false⟩)) (kk ⟨0,false⟩))
def m0(x:T7):La2:=N8 (λr=>r) x
def Z9(x:T7)(r:La2):DT (a7×List a8):=(gb7 r.alt 1 (b r.bs0,[bq 0 4 [[i x.f0,i x.e8,i x.g7,i x.n4]]]) .fail)
def ca2:Sum:=Sa0 ⟨[sLq tV,.fn 155 [.o (.ptr 0 0 0 0)]],[⟨0,4,true,some [kLq 4]⟩],λa H=>(⟨aLq tV a 0,hIq H 0 0 0,hIq H 0 0 1,hIq H 0 0 2,hIq H 0 0 3⟩,())⟩ (λx=>Z9 x (m0 x))
theorem za6:d6 prog G 101 ca2:=R4 (enc:=λx=>⟨[eL tV x.l6,.fn 155 [.ptr 0 0 0 0]],[bq 0 4 [[i x.f0,i x.e8,i x.g7,i x.n4]]]⟩) (λa H=>by kernel_rfl) (bd Ad3 wa5) λx=>ya6 (mEq @N8 (λr=>(Z9 x r).run) x)
@[reducible] noncomputable def U0:Sum:=j6 (En tbN) Kd9
theorem X8:d6 prog G 111 U0:=bd xe8 Oa0
def za7:List (Nat×Sum):=[(143,wa4),(101,ca2),(111,U0)]
theorem Zb0:w7 prog G za7:=⟨Oa6,za6,X8,trivial⟩
structure M1 where
 (is3 is4 is9 q9 Ga3 B6 Lb1:Int)
 (c7 g8:List V3)
structure A1 where
 E2:Int
def bb2(p:M1)(s:A1):St:=⟨.unk::.ptr 0 0 0 0::.unk::i p.is3::i p.is4::ra 4 (i p.is9::i p.q9::ra 5 (i p.Ga3::i p.B6::ra 5 (i p.Lb1::i s.E2::ra 35 (i 0::.unk::.ptr 1 0 0 0::.ptr 2 0 0 0::ra 8 [])))),[bq 0 1 [[eL tV p.c7]],bq 0 1 [[eL tV p.g8]],bq 0 1 [[b false]]]⟩
def ja8{α:Type}(k:A1->α)(e:Nat->α)(z:α)(p:M1)(s:A1):α:=let y0:=(List.length p.c7);let t1:=(A0 (gL tV p.c7 s.E2.toNat) (gL tV p.c7 p.is4.toNat) (gL tV p.c7 p.is3.toNat));let t2:=(m0 ⟨rt tV p.g8,t1.1.n.x,t1.1.n.y,t1.1.n.z,t1.1.b⟩);(sl (decide (s.E2<p.Lb1)) (sl (inB s.E2 y0) (sl (inB p.is4 y0) (sl (inB p.is3 y0) (sl (Q5 (gL tV p.c7 s.E2.toNat) (gL tV p.c7 p.is4.toNat) (gL tV p.c7 p.is3.toNat)) (sl t1.2 (sl t1.2 (sl ((cnE tV p.g8)&&true) (sl (Nat.beq t2.alt 1) (e 1) z) z) (k ⟨W (s.E2+1)⟩)) (sl t1.2 z (k ⟨W (s.E2+1)⟩))) z) z) z) z) (e 2))
def E5(p:M1)(s:A1):Stp A1:=ja8 .next .exit .fail p s
def La5:Lo M1 A1:=⟨En za7,0,Pc3,[1,0,1,4,4,1,4,4,1,1,0,4,1,1,4,4,1,1,0,4,1,1,4,4],[1,3,4,9,10,16,17,23,24,60,62,63],.p,[⟨sUq::sPq 0::sUq::sIq::sIq::ru2 4 (sIq::sIq::ru2 5 (sIq::sIq::ru2 5 (sIq::sIq::ru2 35 (.s (.o (.lit .i64 0))::sUq::sPq 1::sPq 2::ru2 8 [])))),[⟨0,1,true,some [[.c 3 (nL tV)]]⟩,⟨0,1,true,some [[.c 3 (nL tV)]]⟩,⟨0,1,true,some [[.o (.blit false)]]⟩],λa H=>(⟨aIq a 3,aIq a 4,aIq a 9,aIq a 10,aIq a 16,aIq a 17,aIq a 23,hLq tV H 0 0 0,hLq tV H 1 0 0⟩,⟨aIq a 24⟩)⟩],E5,[(none,λp s=>let t1:=(A0 (gL tV p.c7 s.E2.toNat) (gL tV p.c7 p.is4.toNat) (gL tV p.c7 p.is3.toNat));let t2:=(m0 ⟨rt tV p.g8,t1.1.n.x,t1.1.n.y,t1.1.n.z,t1.1.b⟩);⟨.unk::.ptr 0 0 0 0::.unk::i p.is3::i p.is4::i s.E2::.ptr 3 0 0 0::b t1.2::.unk::i p.is9::i p.q9::ra 5 (i p.Ga3::i p.B6::ra 5 (i p.Lb1::i s.E2::b (decide (s.E2<p.Lb1))::i s.E2::.tup [.agg [i t1.1.n.x,i t1.1.n.y,i t1.1.n.z,i t1.1.b],b t1.2]::eL tV p.c7::i s.E2::.tptr [i (gL tV p.c7 s.E2.toNat).x,i (gL tV p.c7 s.E2.toNat).y,i (gL tV p.c7 s.E2.toNat).z]::.agg [i (gL tV p.c7 s.E2.toNat).x,i (gL tV p.c7 s.E2.toNat).y,i (gL tV p.c7 s.E2.toNat).z]::eL tV p.c7::i p.is4::.tptr [i (gL tV p.c7 p.is4.toNat).x,i (gL tV p.c7 p.is4.toNat).y,i (gL tV p.c7 p.is4.toNat).z]::.agg [i (gL tV p.c7 p.is4.toNat).x,i (gL tV p.c7 p.is4.toNat).y,i (gL tV p.c7 p.is4.toNat).z]::eL tV p.c7::i p.is3::.tptr [i (gL tV p.c7 p.is3.toNat).x,i (gL tV p.c7 p.is3.toNat).y,i (gL tV p.c7 p.is3.toNat).z]::.agg [i (gL tV p.c7 p.is3.toNat).x,i (gL tV p.c7 p.is3.toNat).y,i (gL tV p.c7 p.is3.toNat).z]::.tup [.agg [i t1.1.n.x,i t1.1.n.y,i t1.1.n.z,i t1.1.b],b t1.2]::.agg [i t1.1.n.x,i t1.1.n.y,i t1.1.n.z,i t1.1.b]::b t1.2::b t1.2::b true::.unk::.agg [i t1.1.n.x,i t1.1.n.y,i t1.1.n.z,i t1.1.b]::b false::b true::b true::.unk::u::u::u::u::b true::b true::ra 3 (i 1::.unk::.ptr 1 0 0 0::.ptr 2 0 0 0::ra 8 []))),[bq 0 1 [[eL tV p.c7]],bq 0 1 [[eL tV p.g8]],bq 0 1 [[b (!t2.bs0)]],bq 0 4 [[i t1.1.n.x,i t1.1.n.y,i t1.1.n.z,i t1.1.b]],bq 0 4 [[i t1.1.n.x,i t1.1.n.y,i t1.1.n.z,i t1.1.b]]]⟩),(some 4,λp s=>upq (bb2 p s) [(25,b (decide (s.E2<p.Lb1)))])],bb2⟩
theorem Ub2:La5.OkM:=Lo.okMq [] .nil λp s=>(.ofq @ja8)
structure S3 where
 (is3 is9 q9 Ga3:Int)
structure C6 where
 B6:Int
 (c7 g8:List V3)
def bb3(p:S3)(s:C6):St:=⟨.unk::.ptr 0 0 0 0::.unk::i p.is3::ra 5 (i p.is9::i p.q9::ra 5 (i p.Ga3::i s.B6::ra 42 (i 0::.unk::.ptr 1 0 0 0::.ptr 2 0 0 0::ra 8 []))),[bq 0 1 [[eL tV s.c7]],bq 0 1 [[eL tV s.g8]],bq 0 1 [[b false]]]⟩
def ja9{α:Type}(k:C6->α)(e:Nat->α)(z:α)(p:S3)(s:C6):α:=let t1:=(lp (E5 (⟨p.is3,s.B6,p.is9,p.q9,p.Ga3,s.B6,(↑(s.B6.toNat-0):Int),rt tV s.c7,rt tV s.g8⟩:M1)) (⟨0⟩:A1));(sl (decide (s.B6<p.Ga3)) (sl (inB s.B6 ((List.length s.c7)+1)) (sl ((cnE tV s.c7)&&((cnE tV s.g8)&&true)) (sl (Nat.beq t1.1 1) (e 1) (sl (Nat.beq t1.1 2) (k ⟨W (s.B6+1),rt tV s.c7,rt tV s.g8⟩) z)) z) z) (e 2))
def I8(p:S3)(s:C6):Stp C6:=ja9 .next .exit .fail p s
def La6:Lo S3 C6:=⟨En za7,0,Pc3,[1,0,1,4,4,1,4,4,1,1,0,4,1,1,4,4],[1,3,9,10,16,17,60,62,63],.s .p (.s .p (.s (.b (.s .p (.s .p (.b (.u La5.lsM))))) .p)),[⟨sUq::sPq 0::sUq::sIq::ru2 5 (sIq::sIq::ru2 5 (sIq::sIq::ru2 42 (.s (.o (.lit .i64 0))::sUq::sPq 1::sPq 2::ru2 8 []))),[⟨0,1,true,some [[.c 3 (nL tV)]]⟩,⟨0,1,true,some [[.c 3 (nL tV)]]⟩,⟨0,1,true,some [[.o (.blit false)]]⟩],λa H=>(⟨aIq a 3,aIq a 9,aIq a 10,aIq a 16⟩,⟨aIq a 17,hLq tV H 0 0 0,hLq tV H 1 0 0⟩)⟩],I8,[(none,λp s=>let t1:=(lp (E5 (⟨p.is3,s.B6,p.is9,p.q9,p.Ga3,s.B6,(↑(s.B6.toNat-0):Int),rt tV s.c7,rt tV s.g8⟩:M1)) (⟨0⟩:A1));let t2:=(A0 (gL tV (rt tV s.c7) t1.2.E2.toNat) (gL tV (rt tV s.c7) s.B6.toNat) (gL tV (rt tV s.c7) p.is3.toNat));let t3:=(m0 ⟨rt tV (rt tV s.g8),t2.1.n.x,t2.1.n.y,t2.1.n.z,t2.1.b⟩);⟨.unk::.ptr 0 0 0 0::.unk::i p.is3::i s.B6::i t1.2.E2::.ptr 3 0 0 0::b t2.2::.unk::i p.is9::i p.q9::ra 5 (i p.Ga3::i s.B6::ra 5 (i (↑(s.B6.toNat-0):Int)::i t1.2.E2::b (decide (t1.2.E2<(↑(s.B6.toNat-0):Int)))::i t1.2.E2::.tup [.agg [i t2.1.n.x,i t2.1.n.y,i t2.1.n.z,i t2.1.b],b t2.2]::eL tV (rt tV s.c7)::i t1.2.E2::.tptr [i (gL tV (rt tV s.c7) t1.2.E2.toNat).x,i (gL tV (rt tV s.c7) t1.2.E2.toNat).y,i (gL tV (rt tV s.c7) t1.2.E2.toNat).z]::.agg [i (gL tV (rt tV s.c7) t1.2.E2.toNat).x,i (gL tV (rt tV s.c7) t1.2.E2.toNat).y,i (gL tV (rt tV s.c7) t1.2.E2.toNat).z]::eL tV (rt tV s.c7)::i s.B6::.tptr [i (gL tV (rt tV s.c7) s.B6.toNat).x,i (gL tV (rt tV s.c7) s.B6.toNat).y,i (gL tV (rt tV s.c7) s.B6.toNat).z]::.agg [i (gL tV (rt tV s.c7) s.B6.toNat).x,i (gL tV (rt tV s.c7) s.B6.toNat).y,i (gL tV (rt tV s.c7) s.B6.toNat).z]::eL tV (rt tV s.c7)::i p.is3::.tptr [i (gL tV (rt tV s.c7) p.is3.toNat).x,i (gL tV (rt tV s.c7) p.is3.toNat).y,i (gL tV (rt tV s.c7) p.is3.toNat).z]::.agg [i (gL tV (rt tV s.c7) p.is3.toNat).x,i (gL tV (rt tV s.c7) p.is3.toNat).y,i (gL tV (rt tV s.c7) p.is3.toNat).z]::.tup [.agg [i t2.1.n.x,i t2.1.n.y,i t2.1.n.z,i t2.1.b],b t2.2]::.agg [i t2.1.n.x,i t2.1.n.y,i t2.1.n.z,i t2.1.b]::b t2.2::b t2.2::b true::.unk::.agg [i t2.1.n.x,i t2.1.n.y,i t2.1.n.z,i t2.1.b]::b false::b true::b true::.unk::u::u::u::u::b true::b true::ra 3 (i 1::.unk::.ptr 1 0 0 0::.ptr 2 0 0 0::ra 8 []))),[bq 0 1 [[eL tV (rt tV s.c7)]],bq 0 1 [[eL tV (rt tV s.g8)]],bq 0 1 [[b (!t3.bs0)]],bq 0 4 [[i t2.1.n.x,i t2.1.n.y,i t2.1.n.z,i t2.1.b]],bq 0 4 [[i t2.1.n.x,i t2.1.n.y,i t2.1.n.z,i t2.1.b]]]⟩),(some 2,λp s=>upq (bb3 p s) [(18,b (decide (s.B6<p.Ga3)))])],bb3⟩
theorem Ub3:La6.OkM:=Lo.okMq [La5.prM] (.cons Ub2 .nil) λp s=>(.ofq @ja9)
structure I1 where
 q9:Int
 (c7 g8:List V3)
def bb4(p:A6)(s:I1):St:=⟨.unk::.ptr 0 0 0 0::ra 7 (i p.is9::i s.q9::ra 49 (i 0::.unk::.ptr 1 0 0 0::.ptr 2 0 0 0::ra 8 [])),[bq 0 1 [[eL tV s.c7]],bq 0 1 [[eL tV s.g8]],bq 0 1 [[b false]]]⟩
def ka0{α:Type}(k:I1->α)(e:Nat->α)(z:α)(p:A6)(s:I1):α:=let t1:=(lp (I8 (⟨s.q9,p.is9,s.q9,(↑(s.q9.toNat-0):Int)⟩:S3)) (⟨0,rt tV s.c7,rt tV s.g8⟩:C6));(sl (decide (s.q9<p.is9)) (sl (inB s.q9 ((List.length s.c7)+1)) (sl ((cnE tV s.c7)&&((cnE tV s.g8)&&true)) (sl (Nat.beq t1.1 1) (e 1) (sl (Nat.beq t1.1 2) (k ⟨W (s.q9+1),t1.2.c7,t1.2.g8⟩) z)) z) z) (e 2))
def U1(p:A6)(s:I1):Stp I1:=ka0 .next .exit .fail p s
def La7:Lo A6 I1:=⟨En za7,0,Pc3,[1,0,1,4,4,1,4,4],[1,9,10,60,62,63],.s .p (.s .p (.s (.b (.s .p (.s .p (.b (.u La6.lsM))))) .p)),[⟨sUq::sPq 0::ru2 7 (sIq::sIq::ru2 49 (.s (.o (.lit .i64 0))::sUq::sPq 1::sPq 2::ru2 8 [])),[⟨0,1,true,some [[.c 3 (nL tV)]]⟩,⟨0,1,true,some [[.c 3 (nL tV)]]⟩,⟨0,1,true,some [[.o (.blit false)]]⟩],λa H=>(⟨aIq a 9⟩,⟨aIq a 10,hLq tV H 0 0 0,hLq tV H 1 0 0⟩)⟩],U1,[(none,λp s=>let t1:=(lp (I8 (⟨s.q9,p.is9,s.q9,(↑(s.q9.toNat-0):Int)⟩:S3)) (⟨0,rt tV s.c7,rt tV s.g8⟩:C6));let t2:=(lp (E5 (⟨s.q9,t1.2.B6,p.is9,s.q9,(↑(s.q9.toNat-0):Int),t1.2.B6,(↑(t1.2.B6.toNat-0):Int),rt tV t1.2.c7,rt tV t1.2.g8⟩:M1)) (⟨0⟩:A1));let t3:=(A0 (gL tV (rt tV t1.2.c7) t2.2.E2.toNat) (gL tV (rt tV t1.2.c7) t1.2.B6.toNat) (gL tV (rt tV t1.2.c7) s.q9.toNat));let t4:=(m0 ⟨rt tV (rt tV t1.2.g8),t3.1.n.x,t3.1.n.y,t3.1.n.z,t3.1.b⟩);⟨.unk::.ptr 0 0 0 0::.unk::i s.q9::i t1.2.B6::i t2.2.E2::.ptr 3 0 0 0::b t3.2::.unk::i p.is9::i s.q9::ra 5 (i (↑(s.q9.toNat-0):Int)::i t1.2.B6::ra 5 (i (↑(t1.2.B6.toNat-0):Int)::i t2.2.E2::b (decide (t2.2.E2<(↑(t1.2.B6.toNat-0):Int)))::i t2.2.E2::.tup [.agg [i t3.1.n.x,i t3.1.n.y,i t3.1.n.z,i t3.1.b],b t3.2]::eL tV (rt tV t1.2.c7)::i t2.2.E2::.tptr [i (gL tV (rt tV t1.2.c7) t2.2.E2.toNat).x,i (gL tV (rt tV t1.2.c7) t2.2.E2.toNat).y,i (gL tV (rt tV t1.2.c7) t2.2.E2.toNat).z]::.agg [i (gL tV (rt tV t1.2.c7) t2.2.E2.toNat).x,i (gL tV (rt tV t1.2.c7) t2.2.E2.toNat).y,i (gL tV (rt tV t1.2.c7) t2.2.E2.toNat).z]::eL tV (rt tV t1.2.c7)::i t1.2.B6::.tptr [i (gL tV (rt tV t1.2.c7) t1.2.B6.toNat).x,i (gL tV (rt tV t1.2.c7) t1.2.B6.toNat).y,i (gL tV (rt tV t1.2.c7) t1.2.B6.toNat).z]::.agg [i (gL tV (rt tV t1.2.c7) t1.2.B6.toNat).x,i (gL tV (rt tV t1.2.c7) t1.2.B6.toNat).y,i (gL tV (rt tV t1.2.c7) t1.2.B6.toNat).z]::eL tV (rt tV t1.2.c7)::i s.q9::.tptr [i (gL tV (rt tV t1.2.c7) s.q9.toNat).x,i (gL tV (rt tV t1.2.c7) s.q9.toNat).y,i (gL tV (rt tV t1.2.c7) s.q9.toNat).z]::.agg [i (gL tV (rt tV t1.2.c7) s.q9.toNat).x,i (gL tV (rt tV t1.2.c7) s.q9.toNat).y,i (gL tV (rt tV t1.2.c7) s.q9.toNat).z]::.tup [.agg [i t3.1.n.x,i t3.1.n.y,i t3.1.n.z,i t3.1.b],b t3.2]::.agg [i t3.1.n.x,i t3.1.n.y,i t3.1.n.z,i t3.1.b]::b t3.2::b t3.2::b true::.unk::.agg [i t3.1.n.x,i t3.1.n.y,i t3.1.n.z,i t3.1.b]::b false::b true::b true::.unk::u::u::u::u::b true::b true::ra 3 (i 1::.unk::.ptr 1 0 0 0::.ptr 2 0 0 0::ra 8 []))),[bq 0 1 [[eL tV (rt tV t1.2.c7)]],bq 0 1 [[eL tV (rt tV t1.2.g8)]],bq 0 1 [[b (!t4.bs0)]],bq 0 4 [[i t3.1.n.x,i t3.1.n.y,i t3.1.n.z,i t3.1.b]],bq 0 4 [[i t3.1.n.x,i t3.1.n.y,i t3.1.n.z,i t3.1.b]]]⟩),(some 0,λp s=>upq (bb4 p s) [(11,b (decide (s.q9<p.is9)))])],bb4⟩
theorem Ub4:La7.OkM:=Lo.okMq [La6.prM] (.cons Ub3 .nil) λp s=>(.ofq @ka0)
def ta8(x:List V3):ROq:=let y1:=(↑(List.length x):Int);let t1:=(lp (U1 (⟨y1⟩:A6)) (⟨0,rt tV x,rt tV x⟩:I1));let t2:=(lp (I8 (⟨t1.2.q9,y1,t1.2.q9,(↑(t1.2.q9.toNat-0):Int)⟩:S3)) (⟨0,rt tV t1.2.c7,rt tV t1.2.g8⟩:C6));let y0:=(rt tV t2.2.c7);let t3:=(lp (E5 (⟨t1.2.q9,t2.2.B6,y1,t1.2.q9,(↑(t1.2.q9.toNat-0):Int),t2.2.B6,(↑(t2.2.B6.toNat-0):Int),y0,rt tV t2.2.g8⟩:M1)) (⟨0⟩:A1));let t4:=(A0 (gL tV y0 t3.2.E2.toNat) (gL tV y0 t2.2.B6.toNat) (gL tV y0 t1.2.q9.toNat));let t5:=(m0 ⟨rt tV (rt tV t2.2.g8),t4.1.n.x,t4.1.n.y,t4.1.n.z,t4.1.b⟩);(sl ((cnE tV x)&&((cnE tV x)&&true)) (sl (Nat.beq t1.1 1) (some (b (!t5.bs0),[])) (sl (Nat.beq t1.1 2) (some (b true,[])) none)) none)
def Ia3(x:List V3):Bool:=N4 (one r1B) (ta8 x)
def Ia4(x:List V3):Bool:=okO (one r1B) (ta8 x)
def Fb1:Sum:=G9 (ga2 tV) (λx=>.guard (Ia4 x) (.ret ((one r1B).enc (Ia3 x),[])))
theorem nc2:d6 prog G 134 Fb1:=lc5 (bd ye5 Zb0) (one r1B) (o:=ta8) λx=>Tb1 (.s .p (.s (.s .p (.b (.i (.s .p (.b (.u La7.lsM)))))) .p)) [La7.prM] (.cons Ub4 .nil)
def zb8:List (Nat×Sum):=[(74,za4)]
theorem tb0:w7 prog G zb8:=⟨La0,trivial⟩
def wa8{α:Type}(kk:La2->α)(x:La1):α:=let y1:=(⟨x.Qa3,x.Qa4,x.Qa5⟩:V3);let y0:=(⟨(⟨x.f0,x.e8,x.g7⟩:V3),x.n4⟩:Pln);let t1:=(W0 y0 y1);(sl (W4 y0 y1) (kk ⟨1,decide (t1>0)⟩) (kk ⟨0,false⟩))
def ka1(x:La1):La2:=wa8 (λr=>r) x
def Oa7(x:La1)(r:La2):DT (a7×List a8):=(gb7 r.alt 1 (b r.bs0,[bq 0 4 [[i x.f0,i x.e8,i x.g7,i x.n4]]]) .fail)
def Va1:Sum:=Sa0 ⟨[.agg (kLq 3),sPq 0],[⟨0,4,true,some [kLq 4]⟩],λa H=>(⟨cIq a 0 0,cIq a 0 1,cIq a 0 2,hIq H 0 0 0,hIq H 0 0 1,hIq H 0 0 2,hIq H 0 0 3⟩,())⟩ (λx=>Oa7 x (ka1 x))
theorem zb9:d6 prog G 145 Va1:=R4 (enc:=λx=>⟨[.agg [i x.Qa3,i x.Qa4,i x.Qa5],.ptr 0 0 0 0],[bq 0 4 [[i x.f0,i x.e8,i x.g7,i x.n4]]]⟩) (λa H=>by kernel_rfl) (bd ze3 tb0) λx=>ya6 (mEq @wa8 (λr=>(Oa7 x r).run) x)
def ia1:List (Nat×Sum):=[(145,Va1)]
theorem Fa9:w7 prog G ia1:=⟨zb9,trivial⟩
def ca3(p:A9)(s:k8):St:=⟨eL tV p.l6::.fn 145 [.ptr 0 0 0 0]::ra 5 (i p.is7::i s.is8::ra 10 []),[bq 0 4 [[i p.f0,i p.e8,i p.g7,i p.n4]]]⟩
def D6{α:Type}(k:k8->α)(e:Nat->α)(z:α)(p:A9)(s:k8):α:=let y0:=(gL tV p.l6 s.is8.toNat);let t1:=(ka1 ⟨y0.x,y0.y,y0.z,p.f0,p.e8,p.g7,p.n4⟩);(sl (decide (s.is8<p.is7)) (sl (inB s.is8 (List.length p.l6)) (sl (Nat.beq t1.alt 1) (sl t1.bs0 (e 1) (k ⟨W (s.is8+1)⟩)) z) z) (e 2))
def z6(p:A9)(s:k8):Stp k8:=D6 .next .exit .fail p s
def P4:Lo A9 k8:=⟨En ia1,1,fc6,[1,0,1,4,4],[0,1,7,8],.p,[⟨sLq tV::.fn 145 [.o (.ptr 0 0 0 0)]::ru2 5 (sIq::sIq::ru2 10 []),[⟨0,4,true,some [kLq 4]⟩],λa H=>(⟨aLq tV a 0,aIq a 7,hIq H 0 0 0,hIq H 0 0 1,hIq H 0 0 2,hIq H 0 0 3⟩,⟨aIq a 8⟩)⟩],z6,[(none,λp s=>⟨[i s.is8],[bq 0 4 [[i p.f0,i p.e8,i p.g7,i p.n4]]]⟩),(some 0,λp s=>upq (ca3 p s) [(9,b (decide (s.is8<p.is7)))])],ca3⟩
theorem Ea1:P4.Ok:=Lo.okq [] .nil λp s=>(.ofq @D6)
def U4{α:Type}(kk:T8->α)(x:T7):α:=let t1:=(lp (z6 (⟨rt tV x.l6,(↑(List.length x.l6):Int),x.f0,x.e8,x.g7,x.n4⟩:A9)) (⟨0⟩:k8));(sl ((cnE tV x.l6)&&true) (sl (Nat.beq t1.1 1) (kk ⟨1,t1.2.is8⟩) (sl (Nat.beq t1.1 2) (kk ⟨1,-1⟩) (kk ⟨0,0⟩))) (kk ⟨0,0⟩))
def J3(x:T7):T8:=U4 (λr=>r) x
def ia2(x:T7)(r:T8):DT (a7×List a8):=(gb7 r.alt 1 (i r.is0,[bq 0 4 [[i x.f0,i x.e8,i x.g7,i x.n4]]]) .fail)
def la9:Sum:=Sa0 ⟨[sLq tV,.fn 145 [.o (.ptr 0 0 0 0)]],[⟨0,4,true,some [kLq 4]⟩],λa H=>(⟨aLq tV a 0,hIq H 0 0 0,hIq H 0 0 1,hIq H 0 0 2,hIq H 0 0 3⟩,())⟩ (λx=>ia2 x (J3 x))
theorem La8:d6 prog G 131 la9:=R4 (enc:=λx=>⟨[eL tV x.l6,.fn 145 [.ptr 0 0 0 0]],[bq 0 4 [[i x.f0,i x.e8,i x.g7,i x.n4]]]⟩) (λa H=>by kernel_rfl) (bd kd7 Fa9) λx=>Ha8 (.s .p (.s (.s .p (.b (.u P4.ls))) .p)) [P4.pr] (.cons Ea1 .nil) (mEq @U4 (λr=>(ia2 x r).run) x)
def za8:List (Nat×Sum):=[(131,la9)]
theorem wa9:w7 prog G za8:=⟨La8,trivial⟩
def O1{α:Type}(kk:La2->α)(x:T7):α:=let t1:=(J3 ⟨rt tV x.l6,x.f0,x.e8,x.g7,x.n4⟩);(sl ((cnE tV x.l6)&&true) (sl (Nat.beq t1.alt 1) (kk ⟨1,decide (t1.is0>=0)⟩) (kk ⟨0,false⟩)) (kk ⟨0,false⟩))
def E6(x:T7):La2:=O1 (λr=>r) x
def aa0(x:T7)(r:La2):DT (a7×List a8):=(gb7 r.alt 1 (b r.bs0,[bq 0 4 [[i x.f0,i x.e8,i x.g7,i x.n4]]]) .fail)
def ca4:Sum:=Sa0 ⟨[sLq tV,.fn 145 [.o (.ptr 0 0 0 0)]],[⟨0,4,true,some [kLq 4]⟩],λa H=>(⟨aLq tV a 0,hIq H 0 0 0,hIq H 0 0 1,hIq H 0 0 2,hIq H 0 0 3⟩,())⟩ (λx=>aa0 x (E6 x))
theorem za9:d6 prog G 101 ca4:=R4 (enc:=λx=>⟨[eL tV x.l6,.fn 145 [.ptr 0 0 0 0]],[bq 0 4 [[i x.f0,i x.e8,i x.g7,i x.n4]]]⟩) (λa H=>by kernel_rfl) (bd Ad3 wa9) λx=>ya6 (mEq @O1 (λr=>(aa0 x r).run) x)
def Ub5:List (Nat×Sum):=[(101,ca4)]
theorem Hb8:w7 prog G Ub5:=⟨za9,trivial⟩
def ia3(x:List V3)(y:Pln):ROq:=let t1:=(E6 ⟨rt tV x,y.n.x,y.n.y,y.n.z,y.b⟩);(sl ((cnE tV x)&&true) (sl (Nat.beq t1.alt 1) (some (b t1.bs0,[])) none) none)
def M2(x:List V3)(y:Pln):Bool:=N4 (one r1B) (ia3 x y)
def M3(x:List V3)(y:Pln):Bool:=okO (one r1B) (ia3 x y)
def jb3:Sum:=pa5 (ga2 tV) (ha1 tP) (λx y=>.guard (M3 x y) (.ret ((one r1B).enc (M2 x y),[])))
theorem Ub6:d6 prog G 112 jb3:=rb9 (bd xe9 Hb8) (one r1B) (o:=ia3)
def Hb9:List (Nat×Sum):=[(68,Ta0)]
theorem Ab0:w7 prog G Hb9:=⟨ab9,trivial⟩
def ca5(x:V3):ROq:=let t1:=(ba8 x);(sl (ba9 x) (some (b (!t1),[])) none)
def oa6(x:V3):Bool:=N4 (one r1B) (ca5 x)
def oa7(x:V3):Bool:=okO (one r1B) (ca5 x)
def bb5:Sum:=G9 (ha1 tV) (λx=>.guard (oa7 x) (.ret ((one r1B).enc (oa6 x),[])))
theorem Ib0:d6 prog G 133 bb5:=Na9 (bd ye4 Ab0) (one r1B) (o:=ca5)
structure U5 where
 l6:List V3
def ia4:List (Nat×Sum):=[(133,bb5)]
theorem Ga0:w7 prog G ia4:=⟨Ib0,trivial⟩
structure B1 where
 l6:List V3
 is7:Int
def ca6(p:B1)(s:k8):St:=⟨eL tV p.l6::.fn 133 []::ra 5 (i p.is7::i s.is8::ra 10 []),[]⟩
def D7{α:Type}(k:k8->α)(e:Nat->α)(z:α)(p:B1)(s:k8):α:=let t1:=(oa6 (gL tV p.l6 s.is8.toNat));(sl (decide (s.is8<p.is7)) (sl (inB s.is8 (List.length p.l6)) (sl (oa7 (gL tV p.l6 s.is8.toNat)) (sl t1 (e 1) (k ⟨W (s.is8+1)⟩)) z) z) (e 2))
def z7(p:B1)(s:k8):Stp k8:=D7 .next .exit .fail p s
def P5:Lo B1 k8:=⟨En ia4,0,fc6,[1,0,1,4,4],[0,1,7,8],.p,[⟨sLq tV::.s (.o (.fn 133))::ru2 5 (sIq::sIq::ru2 10 []),[],λa H=>(⟨aLq tV a 0,aIq a 7⟩,⟨aIq a 8⟩)⟩],z7,[(none,λp s=>⟨[i s.is8],[]⟩),(some 0,λp s=>upq (ca6 p s) [(9,b (decide (s.is8<p.is7)))])],ca6⟩
theorem Ea2:P5.Ok:=Lo.okq [] .nil λp s=>(.ofq @D7)
def U7{α:Type}(kk:T8->α)(x:U5):α:=let t1:=(lp (z7 (⟨rt tV x.l6,(↑(List.length x.l6):Int)⟩:B1)) (⟨0⟩:k8));(sl ((cnE tV x.l6)&&true) (sl (Nat.beq t1.1 1) (kk ⟨1,t1.2.is8⟩) (sl (Nat.beq t1.1 2) (kk ⟨1,-1⟩) (kk ⟨0,0⟩))) (kk ⟨0,0⟩))
def J4(x:U5):T8:=U7 (λr=>r) x
def ia5(x:U5)(r:T8):DT (a7×List a8):=(gb7 r.alt 1 (i r.is0,[]) .fail)
def ma0:Sum:=Sa0 ⟨[sLq tV,.s (.o (.fn 133))],[],λa H=>(⟨aLq tV a 0⟩,())⟩ (λx=>ia5 x (J4 x))
theorem La9:d6 prog G 131 ma0:=R4 (enc:=λx=>⟨[eL tV x.l6,.fn 133 []],[]⟩) (λa H=>by kernel_rfl) (bd kd7 Ga0) λx=>Ha8 (.s .p (.s (.s .p (.b (.u P5.ls))) .p)) [P5.pr] (.cons Ea2 .nil) (mEq @U7 (λr=>(ia5 x r).run) x)
def Aa0:List (Nat×Sum):=[(131,ma0)]
theorem xa0:w7 prog G Aa0:=⟨La9,trivial⟩
def O4{α:Type}(kk:La2->α)(x:U5):α:=let t1:=(J4 ⟨rt tV x.l6⟩);(sl ((cnE tV x.l6)&&true) (sl (Nat.beq t1.alt 1) (kk ⟨1,decide (t1.is0>=0)⟩) (kk ⟨0,false⟩)) (kk ⟨0,false⟩))
def E7(x:U5):La2:=O4 (λr=>r) x
def aa1(x:U5)(r:La2):DT (a7×List a8):=(gb7 r.alt 1 (b r.bs0,[]) .fail)
def ca7:Sum:=Sa0 ⟨[sLq tV,.s (.o (.fn 133))],[],λa H=>(⟨aLq tV a 0⟩,())⟩ (λx=>aa1 x (E7 x))
theorem Aa1:d6 prog G 101 ca7:=R4 (enc:=λx=>⟨[eL tV x.l6,.fn 133 []],[]⟩) (λa H=>by kernel_rfl) (bd Ad3 xa0) λx=>ya6 (mEq @O4 (λr=>(aa1 x r).run) x)
def Zb1:List (Nat×Sum):=[(101,ca7),(134,Fb1)]
theorem Ub7:w7 prog G Zb1:=⟨Aa1,nc2,trivial⟩
def oa8(x:List V3):ROq:=let t1:=(E7 ⟨rt tV x⟩);let t2:=(Ia3 (rt tV x));(sl (decide ((↑(List.length x):Int)>48)) (some (i 2,[])) (sl ((cnE tV x)&&true) (sl (Nat.beq t1.alt 1) (sl t1.bs0 (some (i 3,[])) (sl (okE tV x) (sl (Ia4 (rt tV x)) (sl t2 (some (i 11,[])) (some (i 0,[]))) none) none)) none) none))
def fa5(x:List V3):Int:=N4 (one r1I) (oa8 x)
def fa6(x:List V3):Bool:=okO (one r1I) (oa8 x)
def Aa2:Sum:=G9 (ga2 tV) (λx=>.guard (fa6 x) (.ret ((one r1I).enc (fa5 x),[])))
theorem ia6:d6 prog G 104 Aa2:=Na9 (bd xe2 Ub7) (one r1I) (o:=oa8)
def ka2(x:Int):Bool:=(x != x)
def Va2:Sum:=G9 cI (λx=>.ret ((one r1B).enc (ka2 x),[]))
theorem Ab1:d6 prog G 182 Va2:=kd8 (bd ze8 Oa0)
def nb3:List (Nat×Sum):=[(182,Va2)]
theorem gb8:w7 prog G nb3:=⟨Ab1,trivial⟩
def R7(x:Int)(y:Int):ROq:=let t1:=(ka2 x);let t2:=(ka2 y);(sl t1 (sl t2 (some (i 0,[])) (some (i (-1),[]))) (sl t2 (some (i 1,[])) (sl (decide (x<y)) (some (i (-1),[])) (sl (decide (x>y)) (some (i 1,[])) (some (i 0,[]))))))
def J5(x:Int)(y:Int):Int:=N4 (one r1I) (R7 x y)
def J6(x:Int)(y:Int):Bool:=okO (one r1I) (R7 x y)
def Ia5:Sum:=pa5 cI cI (λx y=>.guard (J6 x y) (.ret ((one r1I).enc (J5 x y),[])))
theorem nb4:d6 prog G 159 Ia5:=rb9 (bd ze7 gb8) (one r1I) (o:=R7)
structure ca8 where
 Ja7:List Int
 is7:Int
def Va3(p:ca8)(s:k8):St:=⟨ra 3 (i 0::.unk::.unk::eL tI p.Ja7::i p.is7::i s.is8::ra 9 []),[]⟩
def Oa8{α:Type}(k:k8->α)(e:Nat->α)(z:α)(p:ca8)(s:k8):α:=(sl (decide (s.is8<p.is7)) (sl (inB s.is8 (List.length p.Ja7)) (sl ((gL tI p.Ja7 s.is8.toNat) != 0) (e 1) (k ⟨W (s.is8+1)⟩)) z) (e 2))
def K4(p:ca8)(s:k8):Stp k8:=Oa8 .next .exit .fail p s
def Ea3:Lo ca8 k8:=⟨En tbN,0,Ld7,[1,1,0,1,4,4],[3,6,7,8],.p,[⟨ru2 3 (.s (.o (.lit .i64 0))::sUq::sUq::sLq tI::sIq::sIq::ru2 9 []),[],λa H=>(⟨aLq tI a 6,aIq a 7⟩,⟨aIq a 8⟩)⟩],K4,[(none,λp s=>⟨[i (gL tI p.Ja7 s.is8.toNat)],[]⟩),(some 0,λp s=>upq (Va3 p s) [(9,b (decide (s.is8<p.is7)))])],Va3⟩
theorem Ib1:Ea3.Ok:=Lo.okq [] .nil λp s=>(.ofq @Oa8)
def oa9(x:List Int):ROq:=let t1:=(lp (K4 (⟨rt tI x,(↑(List.length x):Int)⟩:ca8)) (⟨0⟩:k8));(sl ((cnE tI x)&&true) (sl (Nat.beq t1.1 1) (some (i (gL tI (rt tI x) t1.2.is8.toNat),[])) (sl (Nat.beq t1.1 2) (some (i 0,[])) none)) none)
def Aa3(x:List Int):Int:=N4 (one r1I) (oa9 x)
def Aa4(x:List Int):Bool:=okO (one r1I) (oa9 x)
def tb1:Sum:=G9 (ga2 tI) (λx=>.guard (Aa4 x) (.ret ((one r1I).enc (Aa3 x),[])))
theorem Zb2:d6 prog G 158 tb1:=lc5 (bd ze6 Oa0) (one r1I) (o:=oa9) λx=>Ha8 (.s .p (.s .p (.s (.s .p (.b (.u Ea3.ls))) .p))) [Ea3.pr] (.cons Ib1 .nil)
def Ib2:List (Nat×Sum):=[(159,Ia5),(158,tb1)]
theorem Ab2:w7 prog G Ib2:=⟨nb4,Zb2,trivial⟩
def ca9(x:V3)(y:V3):ROq:=let t1:=(J5 x.x y.x);let t2:=(J5 x.y y.y);let t3:=(J5 x.z y.z);let t4:=(Aa3 [t1,t2,t3]);(sl (J6 x.x y.x) (sl (J6 x.y y.y) (sl (J6 x.z y.z) (sl (Aa4 [t1,t2,t3]) (some (i t4,[])) none) none) none) none)
def pa0(x:V3)(y:V3):Int:=N4 (one r1I) (ca9 x y)
def pa1(x:V3)(y:V3):Bool:=okO (one r1I) (ca9 x y)
def Ea4:Sum:=pa5 (ha1 tV) (ha1 tV) (λx y=>.guard (pa1 x y) (.ret ((one r1I).enc (pa0 x y),[])))
theorem Ib3:d6 prog G 140 Ea4:=rb9 (bd ye9 Ab2) (one r1I) (o:=ca9)
end Go.Ev.Ce
namespace Go.Ev.L
open Go Go.Ev
theorem Bd0(n:Int):W n=(n+9223372036854775808) % 18446744073709551616-9223372036854775808:=IntKind.wrap_i64 n
theorem fa7{n:Int}(h1:-9223372036854775808<=n)(h2:n<=9223372036854775807):W n=n:=by rw[Bd0];omega
theorem ld4(n:Int):∃k,W n=n+18446744073709551616*k:=⟨-((n+9223372036854775808) / 18446744073709551616),by rw[Bd0];omega⟩
theorem Ab3(n k:Int):W (n+18446744073709551616*k)=W n:=by rw[Bd0,Bd0];omega
theorem Ub8(a b:Int):W (W a+b)=W (a+b):=by
 obtain⟨k,hk⟩:=ld4 a;rw[hk,show a+18446744073709551616*k+b=a+b+18446744073709551616*k by omega,Ab3]
theorem nc3(a b:Int):W (a+W b)=W (a+b):=by rw[Int.add_comm,Ub8,Int.add_comm]
theorem ld5(a b:Int):W (W a-b)=W (a-b):=by
 obtain⟨k,hk⟩:=ld4 a;rw[hk,show a+18446744073709551616*k-b=a-b+18446744073709551616*k by omega,Ab3]
theorem ld6(a b:Int):W (a-W b)=W (a-b):=by
 obtain⟨k,hk⟩:=ld4 b;rw[hk,show a-(b+18446744073709551616*k)=a-b+18446744073709551616*(-k) by omega,Ab3]
theorem K5{j n:Nat}(h:j<n)(hn:n<=4611686018427387904):W ((j:Int)+1)=((j+1:Nat):Int):=by
 rw[fa7 (by omega) (by omega)];omega
theorem Ub9{j n:Nat}(h:j<n):decide ((j:Int)<(n:Int))=true:=decide_eq_true (by omega)
theorem tb2{j n:Nat}(h:¬ j<n):decide ((j:Int)<(n:Int))=false:=decide_eq_false (by omega)
theorem o5{j n:Nat}(h:j<n):inB (j:Int) n=true:=by
 show Nat.blt j n=true;rw[Qch];exact h
theorem bt{c:Bool}(h:c=true){α:Type}(t e:α):sl c t e=t:=by rw[h];rfl
theorem bf{c:Bool}(h:c=false){α:Type}(t e:α):sl c t e=e:=by rw[h];rfl
theorem Bd1{n:Nat}(h:n<=1000000000000):Nat.ble (n*32) room=true:=by
 rw[Nat.ble_eq];unfold room;omega
theorem ld7{σ:Type}{step:σ->Stp σ}{I:Nat->σ->Prop}{Q:Nat->σ->Prop}(h:∀m s,I m s->(∃t,step s=.exit t/\Q t s)\/∃s' m',m=m'+1/\step s=.next s'/\I m' s') :
  ∀(m n:Nat) (s:σ),m<=n->I m s->Q (lp0 step n s).1 (lp0 step n s).2
 |m,n,s,hn,hi=>by
  rcases h m s hi with⟨t,h1,h2⟩|⟨s',m',rfl,h1,h2⟩
  ·rw[vc5 h1];exact h2
  ·cases n with
   |zero=>omega
   |succ n =>
    rw[vc4 h1];exact ld7 h m' n s' (by omega) h2
theorem Ab4{σ:Type}{step:σ->Stp σ}{I:Nat->σ->Prop}{Q:Nat->σ->Prop}(h:∀m s,I m s->(∃t,step s=.exit t/\Q t s)\/∃s' m',m=m'+1/\step s=.next s'/\I m' s')
  (m:Nat) (s:σ) (hm:m<=18446744073709551615) (hi:I m s):Q (lp step s).1 (lp step s).2:=by
 rw[Jd2];exact ld7 h m rounds s (by unfold rounds;omega) hi
section
variable{σ τ α:Type}{step:σ->Stp σ}
theorem Bd2{mk:Nat->τ->σ}{f:τ->α->τ}{fin:Nat}(t:Ty α)(l:List α)(I:Nat->τ->Prop)(hl:l.length<=1000000000)
  (h:∀j a,j<l.length->I j a->step (mk j a)=.next (mk (j+1) (f a (gL t l j)))/\I (j+1) (f a (gL t l j)))
  (hf:∀a,I l.length a->step (mk l.length a)=.exit fin) (j0:Nat) (hj:j0<=l.length) (a:τ) (hi:I j0 a) :
  lp step (mk j0 a)=(fin,mk l.length ((l.drop j0).foldl f a))/\I l.length ((l.drop j0).foldl f a):=by
 have key:=Ab4 (step:=step) (I:=λm s=>∃j b,m=l.length-j/\j<=l.length/\s=mk j b/\I j b/\(l.drop j).foldl f b=(l.drop j0).foldl f a)
  (Q:=λu s=>u=fin/\s=mk l.length ((l.drop j0).foldl f a)/\I l.length ((l.drop j0).foldl f a)) (λm s ⟨j,b,hm,hj,hs,hb,he⟩=>by
   subst hs;by_cases hlt:j<l.length
   ·obtain⟨h1,h2⟩:=h j b hlt hb;refine .inr ⟨_,l.length-(j+1),by omega,h1,j+1,_,rfl,by omega,rfl,h2,?_⟩
    rw[<- he,Qha hlt,List.foldl_cons];simp[gL,Qda,Qaa hlt]
   ·have:j=l.length:=by omega
    subst this;have he:b=(l.drop j0).foldl f a:=by rw[<- he];simp
    subst he;exact .inl ⟨fin,hf _ hb,rfl,rfl,hb⟩) (l.length-j0) (mk j0 a) (by omega) ⟨j0,a,rfl,hj,rfl,hi,rfl⟩
 exact⟨by rw[<- key.2.1,<- key.1],key.2.2⟩
theorem Vd1{mk:Nat->σ}{c:α->Bool}{u fin:Nat}(t:Ty α)(l:List α)(hl:l.length<=1000000000)
  (h:∀j,j<l.length->step (mk j)=sl (c (gL t l j)) (.exit u) (.next (mk (j+1)))) (hf:step (mk l.length)=.exit fin) (j0:Nat) (hj:j0<=l.length) :
  (lp step (mk j0)).1=if (l.drop j0).any c then u else fin :=
 Ab4 (step:=step) (I:=λm s=>∃j,m=l.length-j/\j<=l.length/\s=mk j/\(l.drop j).any c=(l.drop j0).any c)
  (Q:=λv _=>v=if (l.drop j0).any c then u else fin) (λm s ⟨j,hm,hj,hs,he⟩=>by
   subst hs;by_cases hlt:j<l.length
   ·have h1:=h j hlt;have e:gL t l j=l[j]:=by simp[gL,Qda,Qaa hlt]
    have e2:(l.drop j).any c=(c l[j]||(l.drop (j+1)).any c):=by rw[Qha hlt,List.any_cons]
    rw[e] at h1;cases hc:c l[j] with
    |true =>
     rw[hc] at h1;refine .inl ⟨u,h1,?_⟩;rw[<- he,e2,hc];rfl
    |false =>
     rw[hc] at h1;refine .inr ⟨_,l.length-(j+1),by omega,h1,j+1,rfl,by omega,rfl,?_⟩
     rw[<- he,e2,hc];rfl
   ·have:j=l.length:=by omega
    subst this;refine .inl ⟨fin,hf,?_⟩;rw[<- he];simp) (l.length-j0) (mk j0) (by omega) ⟨j0,rfl,hj,rfl,rfl⟩
theorem Ia6{mk:Nat->σ}{c:α->Bool}{u fin:Nat}(t:Ty α)(l:List α)(hl:l.length<=1000000000)
  (h:∀j,j<l.length->step (mk j)=sl (c (gL t l j)) (.exit u) (.next (mk (j+1)))) (hf:step (mk l.length)=.exit fin) (j0:Nat) (hj:j0<=l.length) :
  lp step (mk j0)=if (l.drop j0).any c then (u,mk (j0+(l.drop j0).findIdx c)) else (fin,mk l.length):=by
 have key:=Ab4 (step:=step) (I:=λm s=>∃j,m=l.length-j/\j<=l.length/\j0<=j/\s=mk j/\(l.drop j).any c=(l.drop j0).any c/\j+(l.drop j).findIdx c=j0+(l.drop j0).findIdx c)
  (Q:=λv s=>(v,s)=if (l.drop j0).any c then (u,mk (j0+(l.drop j0).findIdx c)) else (fin,mk l.length)) (λm s ⟨j,hm,hj,hj0,hs,he,hi⟩=>by
   subst hs;by_cases hlt:j<l.length
   ·have h1:=h j hlt;have e:gL t l j=l[j]:=by simp[gL,Qda,Qaa hlt]
    have e2:(l.drop j).any c=(c l[j]||(l.drop (j+1)).any c):=by rw[Qha hlt,List.any_cons]
    have e3:(l.drop j).findIdx c=if c l[j] then 0 else (l.drop (j+1)).findIdx c+1:=by rw[Qha hlt,List.findIdx_cons];cases c l[j]<;>rfl
    rw[e] at h1;cases hc:c l[j] with
    |true =>
     rw[hc] at h1;refine .inl ⟨u,h1,?_⟩;rw[<- he,e2,hc,<- hi,e3,hc];rfl
    |false =>
     rw[hc] at h1;refine .inr ⟨_,l.length-(j+1),by omega,h1,j+1,rfl,by omega,by omega,rfl,?_,?_⟩
     ·rw[<- he,e2,hc];rfl
     ·rw[<- hi,e3,hc];simp only[Qhc,if_false];omega
   ·have:j=l.length:=by omega
    subst this;refine .inl ⟨fin,hf,?_⟩;rw[<- he];simp) (l.length-j0) (mk j0) (by omega) ⟨j0,rfl,hj,Qac _,rfl,rfl,rfl⟩
 exact key
end
theorem nc4{α:Type}(t:Ty α){l:List α}{j:Nat}(h:j<l.length):gL t l j∈l:=by
 simp[gL,Qda,Qaa h]
theorem tb3{α:Type}(t:Ty α){l:List α}{j:Nat}(h:j<l.length):gL t l j=l[j]:=by
 simp[gL,Qda,Qaa h]
def euF:Nat->Int->Int->Int
 |0,g,_=>g
 |k+1,g,n=>if n=0 then g else euF k n (Int.tmod g n)
def eu(g n:Int):Int:=euF (n.natAbs+1) g n
theorem Ba6{g n:Int}(h:n≠0):(Int.tmod g n).natAbs<n.natAbs:=by
 rw[Int.natAbs_tmod];exact Nat.mod_lt _ (by omega)
theorem zc0:∀(k m:Nat) {g n:Int},n.natAbs<k->n.natAbs<m->euF k g n=euF m g n
 |0,_,_,_,h,_=>by omega
 |_+1,0,_,_,_,h=>by omega
 |k+1,m+1,g,n,h1,h2=>by
  unfold euF;by_cases h:n=0
  ·rw[if_pos h,if_pos h]
  ·rw[if_neg h,if_neg h]
   have:=Ba6 (g:=g) h
   exact zc0 k m (by omega) (by omega)
theorem tb4(g:Int):eu g 0=g:=by simp[eu,euF]
theorem nc5{g n:Int}(h:n≠0):eu g n=eu n (Int.tmod g n):=by
 have:=Ba6 (g:=g) h
 unfold eu
 conv=>lhs;unfold euF
 rw[if_neg h];exact zc0 _ _ (by omega) (by omega)
theorem Vd2:∀(k:Nat) (g n:Int),n.natAbs<=k->(eu g n).natAbs=Int.gcd g n:=by
 intro k
 induction k with
 |zero =>
  intro g n h
  have:n=0:=by omega
  subst this;rw[tb4];simp
 |succ k ih =>
  intro g n h;by_cases h0:n=0
  ·subst h0;rw[tb4];simp
  ·have:=Ba6 (g:=g) h0
   rw[nc5 h0,ih n (Int.tmod g n) (by omega)]
   unfold Int.gcd;rw[Int.natAbs_tmod,Nat.gcd_comm g.natAbs,Nat.gcd_comm n.natAbs,<- Nat.gcd_rec]
theorem Vd3(g n:Int):(eu g n).natAbs=Int.gcd g n:=Vd2 _ g n (Qac _)
theorem Yc3:∀(k:Nat) (g n:Int),n.natAbs<=k->0<=g->0<=n->0<=eu g n:=by
 intro k
 induction k with
 |zero =>
  intro g n h hg _
  have:n=0:=by omega
  subst this;rw[tb4];exact hg
 |succ k ih =>
  intro g n h hg hn;by_cases h0:n=0
  ·subst h0;rw[tb4];exact hg
  ·have:=Ba6 (g:=g) h0
   rw[nc5 h0];exact ih n _ (by omega) hn (Int.tmod_nonneg _ hg)
theorem Vd4{g n:Int}(hg:0<=g)(hn:0<=n):eu g n=(Int.gcd g n:Int):=by
 have h1:=Yc3 _ g n (Qac _) hg hn;have h2:=Vd3 g n;omega
section
variable{σ:Type}{step:σ->Stp σ}{mk:Int->Int->σ}
theorem Fb2(h:∀g n,0<n->step (mk g n)=.next (mk n (Int.tmod g n)))(h0:∀g,step (mk g 0)=.exit 1)(g n:Int)(hg:0<=g)(h1:0<=n)(hn:n<=9223372036854775808):lp step (mk g n)=(1,mk (eu g n) 0):=by
 have:=Ab4 (step:=step) (I:=λm s=>∃a c,s=mk a c/\c.natAbs<=m/\0<=a/\0<=c/\eu a c=eu g n) (Q:=λu s=>(u,s)=(1,mk (eu g n) 0)) (λm s ⟨a,c,hs,hm,ha,hc0,he⟩=>by
  subst hs;by_cases hc:c=0
  ·subst hc;rw[tb4] at he;subst he;exact .inl ⟨1,h0 _,rfl⟩
  ·have ht:=Ba6 (g:=a) hc;exact .inr ⟨_,m-1,by omega,h a c (by omega),c,_,rfl,by omega,hc0,Int.tmod_nonneg _ ha,by rw[<- he,nc5 hc]⟩) n.natAbs (mk g n) (by omega) ⟨g,n,rfl,Qac _,hg,h1,rfl⟩
 exact this
end
theorem mb{a c A C:Int}(h1:-A<=a)(h2:a<=A)(h3:-C<=c)(h4:c<=C):-(A*C)<=a*c/\a*c<=A*C:=by
 have hA:a.natAbs<=A.natAbs:=by omega
 have hC:c.natAbs<=C.natAbs:=by omega
 have h5:=Nat.mul_le_mul hA hC;rw[<- Int.natAbs_mul,<- Int.natAbs_mul] at h5;have h6:0<=A*C:=Int.mul_nonneg (by omega) (by omega)
 omega
end Go.Ev.L
namespace Go.Proofs
open Go.Shelf
set_option maxRecDepth 100000 in
def Ce.sortLayV_ren:Go.Shelf.Ren:=⟨fun | 6=>139 | 15=>147 | 14=>157 | 28=>169 | 29=>170 | 20=>174 | 21=>175 | 22=>176 | 23=>177 | 24=>178 | 25=>179 | 26=>180 | 27=>181 | 46=>192 | 47=>184 | 48=>185 | 49=>193 | 50=>194 | 57=>197 | n=>n,fun | 22=>33 | 24=>23 | 25=>83 | 3=>3 | 39=>172 | 0=>0 | 53=>190 | 55=>192 | 4=>4 | 46=>183 | 45=>182 | 50=>187 | 5=>5 | 9=>9 | 66=>199 | 70=>203 | 76=>214 | 77=>215 | n=>n,fun | n=>n⟩
set_option maxRecDepth 100000 in
theorem Ce.sortLayV:Go.Proofs.SlLaysF0.n6 Tryz.prog Ce.sortLayV_ren:={
 mixed:=by kernel_rfl
 f6:=⟨Tryz.f139.name,by decide,Tryz.func139.trans (congrArg some (by kernel_rfl))⟩
 f14:=⟨Tryz.f157.name,by decide,Tryz.func157.trans (congrArg some (by kernel_rfl))⟩
 f15:=Tryz.func147.trans (congrArg some (by kernel_rfl))
 f20:=⟨Tryz.f174.name,by decide,Tryz.func174.trans (congrArg some (by kernel_rfl))⟩
 f21:=⟨Tryz.f175.name,by decide,Tryz.func175.trans (congrArg some (by kernel_rfl))⟩
 f22:=⟨Tryz.f176.name,by decide,Tryz.func176.trans (congrArg some (by kernel_rfl))⟩
 f23:=⟨Tryz.f177.name,by decide,Tryz.func177.trans (congrArg some (by kernel_rfl))⟩
 f24:=⟨Tryz.f178.name,by decide,Tryz.func178.trans (congrArg some (by kernel_rfl))⟩
 f25:=⟨Tryz.f179.name,by decide,Tryz.func179.trans (congrArg some (by kernel_rfl))⟩
 f26:=⟨Tryz.f180.name,by decide,Tryz.func180.trans (congrArg some (by kernel_rfl))⟩
 f27:=⟨Tryz.f181.name,by decide,Tryz.func181.trans (congrArg some (by kernel_rfl))⟩
 f28:=Tryz.func169.trans (congrArg some (by kernel_rfl))
 f29:=Tryz.func170.trans (congrArg some (by kernel_rfl))
 f46:=⟨Tryz.f192.name,by decide,Tryz.func192.trans (congrArg some (by kernel_rfl))⟩
 f47:=Tryz.func184.trans (congrArg some (by kernel_rfl))
 f48:=Tryz.func185.trans (congrArg some (by kernel_rfl))
 f49:=⟨Tryz.f193.name,by decide,Tryz.func193.trans (congrArg some (by kernel_rfl))⟩
 f50:=⟨Tryz.f194.name,by decide,Tryz.func194.trans (congrArg some (by kernel_rfl))⟩
 f57:=⟨Tryz.f197.name,by decide,Tryz.func197.trans (congrArg some (by kernel_rfl))⟩
 t0:=Tryz.underlying0
 a0:=Tryz.isAgg0
 z0:=Tryz.sizeOf0
 v0:=Tryz.zeroValue0
 t3:=Tryz.underlying3
 a3:=Tryz.isAgg3
 z3:=Tryz.sizeOf3
 v3:=Tryz.zeroValue3
 t4:=Tryz.underlying4
 a4:=Tryz.isAgg4
 z4:=Tryz.sizeOf4
 v4:=Tryz.zeroValue4
 t5:=Tryz.underlying5
 a5:=Tryz.isAgg5
 z5:=Tryz.sizeOf5
 v5:=Tryz.zeroValue5
 t9:=Tryz.underlying9
 a9:=Tryz.isAgg9
 z9:=Tryz.sizeOf9
 v9:=Tryz.zeroValue9
 t22:=Tryz.underlying33
 a22:=Tryz.isAgg33
 z22:=Tryz.sizeOf33
 v22:=Tryz.zeroValue33
 t25:=Tryz.underlying83
 a25:=Tryz.isAgg83
 z25:=Tryz.sizeOf83
 v25:=Tryz.zeroValue83
 t39:=Tryz.underlying172
 a39:=Tryz.isAgg172
 z39:=Tryz.sizeOf172
 v39:=Tryz.zeroValue172
 t45:=Tryz.underlying182
 a45:=Tryz.isAgg182
 z45:=Tryz.sizeOf182
 v45:=Tryz.zeroValue182
 t46:=Tryz.underlying183
 a46:=Tryz.isAgg183
 z46:=Tryz.sizeOf183
 v46:=Tryz.zeroValue183
 t50:=Tryz.underlying187
 a50:=Tryz.isAgg187
 z50:=Tryz.sizeOf187
 v50:=Tryz.zeroValue187
 t53:=Tryz.underlying190
 a53:=Tryz.isAgg190
 z53:=Tryz.sizeOf190
 v53:=Tryz.zeroValue190
 t55:=Tryz.underlying192
 a55:=Tryz.isAgg192
 z55:=Tryz.sizeOf192
 v55:=Tryz.zeroValue192
 t66:=Tryz.underlying199
 a66:=Tryz.isAgg199
 z66:=Tryz.sizeOf199
 v66:=Tryz.zeroValue199
 t70:=Tryz.underlying203
 a70:=Tryz.isAgg203
 z70:=Tryz.sizeOf203
 v70:=Tryz.zeroValue203
 t76:=Tryz.underlying214
 a76:=Tryz.isAgg214
 z76:=Tryz.sizeOf214
 v76:=Tryz.zeroValue214
 t77:=Tryz.underlying215
 a77:=Tryz.isAgg215
 z77:=Tryz.sizeOf215
 v77:=Tryz.zeroValue215 }
end Go.Proofs
namespace Go.Ev.Ce
open Go Go.Ev Go.Ev.L Go.Proofs Go.Sort
theorem Pc6(x y:Int):R7 x y=some (i (Ka6 x y),[]):=by
 unfold R7 ka2 Ka6;simp only[bne_self_eq_false,mb7,decide_eq_true_eq,Qhc,if_false]
 split<;>(try split)<;>rfl
theorem Vd5(x y:Int):J5 x y=Ka6 x y:=by unfold J5;rw[Pc6];rfl
theorem Vd6(x y:Int):J6 x y=true:=by unfold J6;rw[Pc6];rfl
def orI(a c d:Int):Int:=if a=0 then if c=0 then d else c else a
theorem Bd3(a c d:Int):((lp (K4 ⟨[a,c,d],3⟩) ⟨0⟩).1=1/\gL tI [a,c,d] (lp (K4 ⟨[a,c,d],3⟩) ⟨0⟩).2.is8.toNat=orI a c d)\/((lp (K4 ⟨[a,c,d],3⟩) ⟨0⟩).1=2/\orI a c d=0):=by
 have g0:gL tI [a,c,d] 0=a:=rfl;have g1:gL tI [a,c,d] 1=c:=rfl;have g2:gL tI [a,c,d] 2=d:=rfl;refine Ab4 (step:=K4 ⟨[a,c,d],3⟩) (I:=λm s=>(m=3/\s=⟨0⟩)\/(m=2/\s=⟨1⟩/\a=0)\/(m=1/\s=⟨2⟩/\a=0/\c=0)\/(m=0/\s=⟨3⟩/\a=0/\c=0/\d=0))
  (Q:=λt s=>(t=1/\gL tI [a,c,d] s.is8.toNat=orI a c d)\/(t=2/\orI a c d=0)) (λm s hi=>?_) 3 ⟨0⟩ (by omega) (.inl ⟨rfl,rfl⟩)
 rcases hi with⟨rfl,rfl⟩|⟨rfl,rfl,ha⟩|⟨rfl,rfl,ha,hc⟩|⟨rfl,rfl,ha,hc,hd⟩
 ·by_cases h:a=0
  ·exact .inr ⟨⟨1⟩,2,rfl,by subst h;rfl,.inr (.inl ⟨rfl,rfl,h⟩)⟩
  ·refine .inl ⟨1,?_,.inl ⟨rfl,by unfold orI;rw[if_neg h];rfl⟩⟩
   show sl (a != 0) (Stp.exit 1) (Stp.next (⟨W (0+1)⟩:k8))=_;rw[bt (by simpa using h)]
 ·by_cases h:c=0
  ·exact .inr ⟨⟨2⟩,1,rfl,by subst h;rfl,.inr (.inr (.inl ⟨rfl,rfl,ha,h⟩))⟩
  ·refine .inl ⟨1,?_,.inl ⟨rfl,by unfold orI;rw[if_pos ha,if_neg h];rfl⟩⟩
   show sl (c != 0) (Stp.exit 1) (Stp.next (⟨W (1+1)⟩:k8))=_;rw[bt (by simpa using h)]
 ·by_cases h:d=0
  ·exact .inr ⟨⟨3⟩,0,rfl,by subst h;rfl,.inr (.inr (.inr ⟨rfl,rfl,ha,hc,h⟩))⟩
  ·refine .inl ⟨1,?_,.inl ⟨rfl,by unfold orI;rw[if_pos ha,if_pos hc];rfl⟩⟩
   show sl (d != 0) (Stp.exit 1) (Stp.next (⟨W (2+1)⟩:k8))=_;rw[bt (by simpa using h)]
 ·exact .inl ⟨2,rfl,.inr ⟨rfl,by unfold orI;rw[if_pos ha,if_pos hc];exact hd⟩⟩
theorem Nd1(a c d:Int):oa9 [a,c,d]=some (i (orI a c d),[]):=by
 have h:=Bd3 a c d;unfold oa9;simp only[v7,r4];rw[show ((([a,c,d]:List Int).length:Nat):Int)=3 from rfl]
 generalize lp (K4 ⟨[a,c,d],3⟩) ⟨0⟩=r at *
 rcases h with⟨h1,h2⟩|⟨h1,h2⟩
 ·rw[h1,h2];rfl
 ·rw[h1,h2];rfl
theorem Be0(a c d:Int):Aa3 [a,c,d]=orI a c d:=by unfold Aa3;rw[Nd1];rfl
theorem Be1(a c d:Int):Aa4 [a,c,d]=true:=by unfold Aa4;rw[Nd1];rfl
def Ma0(x y:V3):Int:=orI (Ka6 x.x y.x) (Ka6 x.y y.y) (Ka6 x.z y.z)
def LtV(x y:V3):Prop:=x.x<y.x\/x.x=y.x/\(x.y<y.y\/x.y=y.y/\x.z<y.z)
instance(x y:V3):Decidable (LtV x y):=by unfold LtV;exact inferInstance
theorem Bd4(x y:V3):Ma0 x y<0↔LtV x y:=by
 have h1:=Ta1 x.x y.x;have h2:=sb4 x.x y.x;have h3:=Ta1 x.y y.y;have h4:=sb4 x.y y.y;have h5:=Ta1 x.z y.z;unfold Ma0 orI LtV;split
 ·split<;>omega
 ·omega
theorem ma1(x y:V3):ltOf Ma0 x y=decide (LtV x y):=by
 unfold ltOf;rw[decide_eq_decide];exact Bd4 x y
theorem pe1:SWO (ltOf Ma0) where
 irrefl x:=by rw[ma1];simp[LtV]
 trans x y z h1 h2:=by rw[ma1,decide_eq_true_eq] at *;unfold LtV at *;omega
 ntrans x y z h1 h2:=by rw[ma1,decide_eq_false_iff_not] at *;unfold LtV at *;omega
theorem Be2(x y:V3)(h1:ltOf Ma0 x y=false)(h2:ltOf Ma0 y x=false):x=y:=by
 rw[ma1,decide_eq_false_iff_not] at *
 unfold LtV at *
 obtain⟨a,b,c⟩:=x;obtain⟨a',b',c'⟩:=y
 simp only at *
 have:a=a'/\b=b'/\c=c':=by omega
 obtain⟨rfl,rfl,rfl⟩:=this;rfl
theorem Fb3(x y:V3):ca9 x y=some (i (Ma0 x y),[]):=by
 unfold ca9 Ma0;simp only[Vd5,Vd6,Be0,Be1,s6]
theorem Vd7(x y:V3):pa0 x y=Ma0 x y:=by unfold pa0;rw[Fb3];rfl
theorem Vd8(x y:V3):pa1 x y=true:=by unfold pa1;rw[Fb3];rfl
theorem Vd9(x y:V3):(Ea4 [.agg (tV.row x),.agg (tV.row y)] []).run=some (i (Ma0 x y),[]):=by
 have:(Ea4 [.agg (tV.row x),.agg (tV.row y)] []).run=sel (pa1 x y) (some (i (pa0 x y),[])) none:=by kernel_rfl
 rw[this,Vd8,Vd7]
def ld8(p:V3):List Value:=[.int .i64 p.x,.int .i64 p.y,.int .i64 p.z]
instance:Inhabited V3:=⟨⟨0,0,0⟩⟩
def Va4(l:List V3):List V3:=l.mergeSort λx y=>!ltOf Ma0 y x
theorem gc0(l:List V3):(Va4 l).length=l.length:=Qhb l
def Z4:Sum:=Oc1 tV 140 23 Va4
theorem Yc4:Ce.sortLayV_ren.f 6=139:=by kernel_rfl
theorem Vb0:Ce.sortLayV_ren.t 24=23:=by kernel_rfl
set_option maxRecDepth 100000 in
theorem pa2:d6 prog G 139 Z4:=by
 refine Oc2 (enc:=ld8) (cf:=Ma0) ⟨_,Tryz.func139,by kernel_rfl,of_decide_eq_true (by kernel_rfl)⟩ (by decide) (λ_=>rfl) (λr h=>qa7 (n:=3) h) (λx v hv=>?_) gc0
  (λblk off size w=>Oc0 Ib3 Vd9 (λ_=>rfl) (λ_=>rfl) _ _ _ _ _) (λblk cap d w hcl hH hb hs=>?_)
 ·simp[ld8] at hv
  rcases hv with rfl|rfl|rfl<;>rfl
 ·have eg:∀args w,(callFunc 140 args).run Tryz.prog w=.ok (.enter 140 args) w:=enters_of Tryz.func140 (by kernel_rfl) rfl
  have:=AnyQ.slices_SortFunc Ce.sortLayV 3 (by rw[Vb0];exact Tryz.isAgg23) (by rw[Vb0];exact Tryz.sizeOf23) ld8 (λ_=>rfl) (λx v hv=>by simp[ld8] at hv;rcases hv with rfl | rfl | rfl<;>rfl) Ma0 pe1 140 #[] blk 0 cap d w eg (hcl 0 d.size) hH hb hs
  rw[Yc4] at this;refine this.mono λe w' ⟨h1,d',n,os,h2,h3,h4⟩=>⟨h1,n,os,?_⟩
  have h5:=sorted_unique_holds pe1 Be2 d d' h2 h3;rw[h4];show _=sortWorldK ld8 3 w blk 0 n (d.toList.mergeSort λx y=>!ltOf Ma0 y x).toArray os
  rw[<- h5]
end Go.Ev.Ce
namespace Go.Ev.Ce
open Go Go.Ev Go.Ev.L Go.Proofs
set_option maxRecDepth 100000
structure la1 where
 (alt ns0:Nat)
 eh0:List (List a7)
def la2{α:Type}(kk:la1->α)(x:V3×List V3):α:=let y0:=(List.range (List.length x.2+1));(sl (Nat.beq 0 0&&Nat.ble ((0+(len (j9 (λk=>(tV).row (gL tV (x.1::x.2) k)) y0)))*24) room) (kk ⟨1,(0+(len (j9 (λk=>(tV).row (gL tV (x.1::x.2) k)) y0))),(app [] (j9 (λk=>(tV).row (gL tV (x.1::x.2) k)) y0))⟩) (kk ⟨0,0,[]⟩))
def O5(x:V3×List V3):la1:=la2 (λr=>r) x
def ya7(r:la1):DT (a7×List a8):=(gb7 r.alt 1 (.sl 0 0 r.ns0 0,[bq 23 3 r.eh0]) .fail)
def la3:Sum:=G9 (vc9 tV) (λx=>ya7 (O5 x))
theorem ya8:d6 prog G 138 la3:=eb7 (bd ye8 Oa0) λx=>ya6 (mEq @la2 (λr=>(ya7 r).run) x)
structure da0 where
 ns0:Nat
 eh0:List (List a7)
structure r5 where
 (ns0 os4 ns4:Nat)
structure l9 where
 (is3 is5:Int)
 eh0:List (List a7)
def ma2(p:r5)(s:l9):St:=⟨.sl 0 0 p.ns0 0::.unk::.unk::i s.is3::.sl 0 p.os4 p.ns4 0::i s.is5::ra 55 [],[bq 23 3 s.eh0]⟩
def I4{α:Type}(k:l9->α)(e:Nat->α)(z:α)(p:r5)(s:l9):α:=let y2:=(p.os4+s.is5.toNat);let y1:=(rdR tV s.eh0 (p.os4+(W (s.is5-1)).toNat));let y0:=(rdR tV s.eh0 y2);(sl (decide (s.is5<(↑p.ns4:Int))) (sl (inB s.is5 p.ns4) (sl (ldR tV s.eh0 y2) (sl (inB (W (s.is5-1)) p.ns4) (sl (ldR tV s.eh0 (p.os4+(W (s.is5-1)).toNat)) (sl (!((y0.x==y1.x)&&((y0.y==y1.y)&&((y0.z==y1.z)&&true)))) (sl (inB s.is5 p.ns4) (sl (ldR tV s.eh0 y2) (sl (inB s.is3 p.ns0) (sl ((Nat.blt (0+s.is3.toNat) (len s.eh0))&&(Nat.ble (0+3) (len (j8 s.eh0 (0+s.is3.toNat))))) (k ⟨W (s.is3+1),W (s.is5+1),setAt s.eh0 (0+s.is3.toNat) (S8 (j8 s.eh0 (0+s.is3.toNat)) 0 [i y0.x,i y0.y,i y0.z])⟩) z) z) z) z) (k ⟨s.is3,W (s.is5+1),s.eh0⟩)) z) z) z) z) (e 1))
def m9(p:r5)(s:l9):Stp l9:=I4 .next .exit .fail p s
def W5:Lo r5 l9:=⟨En tbN,1,kd5,[1,1,0,1,4,4,1,0,4,1,2,1,0,1,4,4],[0,3,4,5],.p,[⟨.s (.o (.sl 0 0 (some 0) none))::sUq::sUq::sIq::.s (.o (.sl 0 0 none none))::sIq::ru2 55 [],[⟨23,3,true,none⟩],λa H=>(⟨slN (slT a 0),slO (slT a 4),slN (slT a 4)⟩,⟨aIq a 3,aIq a 5,elT H 0⟩)⟩],m9,[(some 2,λp s=>upq (ma2 p s) [(29,i s.is5),(30,.sl 0 p.os4 p.ns4 0),(31,i (↑p.ns4:Int)),(32,b (decide (s.is5<(↑p.ns4:Int))))])],ma2⟩
theorem Oa9:W5.Ok:=Lo.okq [] .nil λp s=>(.ofq @I4)
def ma3(p:da0)(s:ud2):St:=⟨.sl 0 0 p.ns0 0::.unk::.unk::i s.is3::ra 57 [],[bq 23 3 p.eh0]⟩
def I5{α:Type}(k:ud2->α)(e:Nat->α)(z:α)(p:da0)(s:ud2):α:=let y1:=(rdR tV p.eh0 (0+s.is3.toNat));let y0:=(rdR tV p.eh0 (0+(W (s.is3-1)).toNat));let t1:=(lp (m9 (⟨p.ns0,0+s.is3.toNat,p.ns0-s.is3.toNat⟩:r5)) (⟨s.is3,1,p.eh0⟩:l9));(sl (decide (s.is3<(↑p.ns0:Int))) (sl (inB s.is3 p.ns0) (sl (ldR tV p.eh0 (0+s.is3.toNat)) (sl (inB (W (s.is3-1)) p.ns0) (sl (ldR tV p.eh0 (0+(W (s.is3-1)).toNat)) (sl ((y1.x==y0.x)&&((y1.y==y0.y)&&((y1.z==y0.z)&&true))) (sl (inB s.is3 (p.ns0+1)) (sl (Nat.beq t1.1 1) (sl (inB t1.2.is3 (p.ns0+1)) (sl (inB t1.2.is3 (p.ns0+1)) (e 1) z) z) z) z) (k ⟨W (s.is3+1)⟩)) z) z) z) z) (e 2))
def D1(p:da0)(s:ud2):Stp ud2:=I5 .next .exit .fail p s
def W6:Lo da0 ud2:=⟨En tbN,1,kd5,[1,1,0,1,4,4],[0,3],.s .p (.s (.b (.s .p (.c (.s .p (.s (.s .p (.b (.u W5.ls))) .p)) .p))) .p),[⟨.s (.o (.sl 0 0 (some 0) none))::sUq::sUq::sIq::ru2 57 [],[⟨23,3,true,none⟩],λa H=>(⟨slN (slT a 0),elT H 0⟩,⟨aIq a 3⟩)⟩],D1,[(none,λp s=>let t1:=(lp (m9 (⟨p.ns0,0+s.is3.toNat,p.ns0-s.is3.toNat⟩:r5)) (⟨s.is3,1,p.eh0⟩:l9));⟨[.sl 0 0 (t1.2.is3.toNat-0) 0],[bq 23 3 (app (r7 t1.2.eh0 (0+t1.2.is3.toNat)) (app (List.replicate (p.ns0-t1.2.is3.toNat) [i 0,i 0,i 0]) (i5 t1.2.eh0 ((0+t1.2.is3.toNat)+(p.ns0-t1.2.is3.toNat)))))]⟩),(some 0,λp s=>upq (ma3 p s) [(10,i s.is3),(11,.sl 0 0 p.ns0 0),(12,i (↑p.ns0:Int)),(13,b (decide (s.is3<(↑p.ns0:Int))))])],ma3⟩
theorem Pa0:W6.Ok:=Lo.okq [W5.pr] (.cons Oa9 .nil) λp s=>(.ofq @I5)
def da2{α:Type}(kk:la1->α)(x:da0):α:=let t1:=(lp (D1 (⟨x.ns0,x.eh0⟩:da0)) (⟨1⟩:ud2));let t2:=(lp (m9 (⟨x.ns0,0+t1.2.is3.toNat,x.ns0-t1.2.is3.toNat⟩:r5)) (⟨t1.2.is3,1,x.eh0⟩:l9));(sl (decide ((↑x.ns0:Int)<2)) (kk ⟨1,x.ns0,x.eh0⟩) (sl (Nat.beq t1.1 1) (kk ⟨1,t2.2.is3.toNat-0,app (r7 t2.2.eh0 (0+t2.2.is3.toNat)) (app (List.replicate (x.ns0-t2.2.is3.toNat) [i 0,i 0,i 0]) (i5 t2.2.eh0 ((0+t2.2.is3.toNat)+(x.ns0-t2.2.is3.toNat))))⟩) (sl (Nat.beq t1.1 2) (kk ⟨1,x.ns0,x.eh0⟩) (kk ⟨0,0,[]⟩))))
def D2(x:da0):la1:=da2 (λr=>r) x
def pa7(x:da0)(r:la1):DT (a7×List a8):=(gb7 r.alt 1 (.sl 0 0 r.ns0 0,[bq 23 3 r.eh0]) .fail)
def da3:Sum:=Sa0 ⟨[.s (.o (.sl 0 0 (some 0) none))],[⟨23,3,true,none⟩],λa H=>(⟨slN (slT a 0),elT H 0⟩,())⟩ (λx=>pa7 x (D2 x))
theorem pa8:d6 prog G 141 da3:=R4 (enc:=λx=>⟨[.sl 0 0 x.ns0 0],[bq 23 3 x.eh0]⟩) (λa H=>by kernel_rfl) (bd ze0 Oa0) λx=>Ha8 (.s .p (.s .p (.s (.s .p (.b (.u W6.ls))) .p))) [W6.pr] (.cons Pa0 .nil) (mEq @da2 (λr=>(pa7 x r).run) x)
def Ab5:List (Nat×Sum):=[(138,la3),(139,Z4),(141,da3)]
theorem tb5:w7 prog G Ab5:=⟨ya8,pa2,pa8,trivial⟩
def X9(x:V3×List V3):ROq:=let t1:=(O5 (hC tV (λk=>(tV).row (gL tV (x.1::x.2) k)),tC tV (List.length x.2) (λk=>(tV).row (gL tV (x.1::x.2) k))));let t2:=(D2 ⟨t1.ns0,app (bL tV (Va4 (slR tV t1.eh0 0 t1.ns0))) (i5 t1.eh0 t1.ns0)⟩);(sl (okL tV (List.length x.2+1) (λk=>(tV).row (gL tV (x.1::x.2) k))) (sl (Nat.beq t1.alt 1) (sl (Bool.and (Nat.ble t1.ns0 room) (Bool.and (Nat.ble t1.ns0 (len t1.eh0)) (okS tV t1.eh0 0 t1.ns0))) (sl (Nat.beq t2.alt 1) (some (.sl 0 0 t2.ns0 0,[bq 23 3 t2.eh0])) none) none) none) none)
def xa1(x:V3×List V3):List V3:=N4 (one (r1L tV)) (X9 x)
def xa2(x:V3×List V3):Bool:=okO (one (r1L tV)) (X9 x)
def Va5:Sum:=G9 (vc9 tV) (λx=>.guard (xa2 x) (.ret ((one (r1L tV)).enc (xa1 x),[])))
theorem Ab6:d6 prog G 110 Va5:=Na9 (bd ne7 tb5) (one (r1L tV)) (o:=X9)
def ta0:List (Nat×Sum):=[(104,Aa2),(110,Va5),(143,wa4),(144,sb7),(112,jb3),(113,la7),(111,U0)]
theorem Vb1:w7 prog G ta0:=⟨ia6,Ab6,Oa6,Yb6,Ub6,Ka8,X8,trivial⟩
structure p6 where
 ph:Nat
 E2:Int
 eh4:List (List a7)
 p9:Nat
 eh5:List (List a7)
def Pa1(p:M1)(s:p6):St:=⟨.unk::.ptr 0 0 0 0::.unk::i p.is3::i p.is4::ra 4 (i p.is9::i p.q9::ra 5 (i p.Ga3::i p.B6::ra 5 (i p.Lb1::i s.E2::ra 35 (i 0::.unk::.ptr 1 0 0 0::nlq::i 0::.unk::.ptr 2 0 0 0::.ptr 3 0 0 0::ra 28 [])))),[bq 0 1 [[eL tV p.c7]],bq 0 1 [[eL tV p.g8]],bq 0 0 [[.ptr 4 0 0 0]],bq 0 0 [[nlq]],bq 141 0 s.eh4]⟩
def Pa2(p:M1)(s:p6):St:=⟨.unk::.ptr 0 0 0 0::.unk::i p.is3::i p.is4::ra 4 (i p.is9::i p.q9::ra 5 (i p.Ga3::i p.B6::ra 5 (i p.Lb1::i s.E2::ra 35 (i 0::.unk::.ptr 1 0 0 0::nlq::i 0::.unk::.ptr 2 0 0 0::.ptr 3 0 0 0::ra 28 [])))),[bq 0 1 [[eL tV p.c7]],bq 0 1 [[eL tV p.g8]],bq 0 0 [[.ptr 4 0 0 0]],bq 0 0 [[.sl 5 0 s.p9 0]],bq 141 0 s.eh4,bq 66 4 s.eh5]⟩
def Ib4(p:M1)(s:p6):St:=(sel (Nat.beq s.ph 1) (Pa2 p s) (Pa1 p s))
def M5{α:Type}(k:p6->α)(e:Nat->α)(z:α)(p:M1)(s:p6):α:=let y7:=(List.length p.c7);let y6:=(okE tV p.g8);let y5:=(rt tV p.g8);let y3:=(W (s.E2+1));let t1:=(A0 (gL tV p.c7 s.E2.toNat) (gL tV p.c7 p.is4.toNat) (gL tV p.c7 p.is3.toNat));let y0:=(va6 [(0,.int .i64),(1,.int .i64),(2,.int .i64),(3,.int .i64)] [i t1.1.n.x,i t1.1.n.y,i t1.1.n.z,i t1.1.b] [i t1.1.n.x,i t1.1.n.y,i t1.1.n.z,i t1.1.b,b true] s.eh4);let t2:=(fa3 t1.1);let y8:=(M3 y5 t2);let y4:=(Ma8 4 [(0,.int .i64),(1,.int .i64),(2,.int .i64),(3,.int .i64)] [i t2.n.x,i t2.n.y,i t2.n.z,i t2.b] y0);let y2:=(va6 [(0,.int .i64),(1,.int .i64),(2,.int .i64),(3,.int .i64)] [i t2.n.x,i t2.n.y,i t2.n.z,i t2.b] [i t2.n.x,i t2.n.y,i t2.n.z,i t2.b,b true] s.eh4);let y1:=(va6 [(0,.int .i64),(1,.int .i64),(2,.int .i64),(3,.int .i64)] [i t2.n.x,i t2.n.y,i t2.n.z,i t2.b] [i t2.n.x,i t2.n.y,i t2.n.z,i t2.b,b true] y0);let t3:=(M2 y5 t2);let t4:=(M2 y5 t1.1);(sl (decide (s.E2<p.Lb1)) (sl (inB s.E2 y7) (sl (inB p.is4 y7) (sl (inB p.is3 y7) (sl (Q5 (gL tV p.c7 s.E2.toNat) (gL tV p.c7 p.is4.toNat) (gL tV p.c7 p.is3.toNat)) (sl t1.2 (sl t1.2 (sl (Ma8 4 [(0,.int .i64),(1,.int .i64),(2,.int .i64),(3,.int .i64)] [i t1.1.n.x,i t1.1.n.y,i t1.1.n.z,i t1.1.b] s.eh4) (sl (Ma8 4 [(0,.int .i64),(1,.int .i64),(2,.int .i64),(3,.int .i64)] [i t2.n.x,i t2.n.y,i t2.n.z,i t2.b] s.eh4) (k ⟨0,y3,s.eh4,0,[]⟩) (sl y6 (sl y8 (sl (!t3) (k ⟨1,y3,y2,1,[[i t2.n.x,i t2.n.y,i t2.n.z,i t2.b]]⟩) (k ⟨0,y3,y2,0,[]⟩)) z) z)) (sl y6 (sl (M3 y5 t1.1) (sl (!t4) (sl y4 (k ⟨1,y3,y0,1,[[i t1.1.n.x,i t1.1.n.y,i t1.1.n.z,i t1.1.b]]⟩) (sl y6 (sl y8 (sl (!t3) (k ⟨1,y3,y1,2,[[i t1.1.n.x,i t1.1.n.y,i t1.1.n.z,i t1.1.b],[i t2.n.x,i t2.n.y,i t2.n.z,i t2.b]]⟩) (k ⟨1,y3,y1,1,[[i t1.1.n.x,i t1.1.n.y,i t1.1.n.z,i t1.1.b]]⟩)) z) z)) (sl y4 (k ⟨0,y3,y0,0,[]⟩) (sl y6 (sl y8 (sl (!t3) (k ⟨1,y3,y1,1,[[i t2.n.x,i t2.n.y,i t2.n.z,i t2.b]]⟩) (k ⟨0,y3,y1,0,[]⟩)) z) z))) z) z)) (k ⟨0,y3,s.eh4,0,[]⟩)) (sl t1.2 z (k ⟨0,y3,s.eh4,0,[]⟩))) z) z) z) z) (e 1))
def M6{α:Type}(k:p6->α)(e:Nat->α)(z:α)(p:M1)(s:p6):α:=let y9:=(List.length p.c7);let y8:=(okE tV p.g8);let y6:=(rt tV p.g8);let y4:=(W (s.E2+1));let t1:=(A0 (gL tV p.c7 s.E2.toNat) (gL tV p.c7 p.is4.toNat) (gL tV p.c7 p.is3.toNat));let y2:=(app s.eh5 [[i t1.1.n.x,i t1.1.n.y,i t1.1.n.z,i t1.1.b]]);let y0:=(va6 [(0,.int .i64),(1,.int .i64),(2,.int .i64),(3,.int .i64)] [i t1.1.n.x,i t1.1.n.y,i t1.1.n.z,i t1.1.b] [i t1.1.n.x,i t1.1.n.y,i t1.1.n.z,i t1.1.b,b true] s.eh4);let t2:=(fa3 t1.1);let y10:=(M3 y6 t2);let y7:=(app s.eh5 [[i t2.n.x,i t2.n.y,i t2.n.z,i t2.b]]);let y5:=(Ma8 4 [(0,.int .i64),(1,.int .i64),(2,.int .i64),(3,.int .i64)] [i t2.n.x,i t2.n.y,i t2.n.z,i t2.b] y0);let y3:=(va6 [(0,.int .i64),(1,.int .i64),(2,.int .i64),(3,.int .i64)] [i t2.n.x,i t2.n.y,i t2.n.z,i t2.b] [i t2.n.x,i t2.n.y,i t2.n.z,i t2.b,b true] s.eh4);let y1:=(va6 [(0,.int .i64),(1,.int .i64),(2,.int .i64),(3,.int .i64)] [i t2.n.x,i t2.n.y,i t2.n.z,i t2.b] [i t2.n.x,i t2.n.y,i t2.n.z,i t2.b,b true] y0);let t3:=(M2 y6 t2);let t4:=(M2 y6 t1.1);let a0:=(Nat.beq s.p9 (len s.eh5)&&Nat.ble ((s.p9+1)*32) room);(sl (decide (s.E2<p.Lb1)) (sl (inB s.E2 y9) (sl (inB p.is4 y9) (sl (inB p.is3 y9) (sl (Q5 (gL tV p.c7 s.E2.toNat) (gL tV p.c7 p.is4.toNat) (gL tV p.c7 p.is3.toNat)) (sl t1.2 (sl t1.2 (sl (Ma8 4 [(0,.int .i64),(1,.int .i64),(2,.int .i64),(3,.int .i64)] [i t1.1.n.x,i t1.1.n.y,i t1.1.n.z,i t1.1.b] s.eh4) (sl (Ma8 4 [(0,.int .i64),(1,.int .i64),(2,.int .i64),(3,.int .i64)] [i t2.n.x,i t2.n.y,i t2.n.z,i t2.b] s.eh4) (k ⟨1,y4,s.eh4,s.p9,s.eh5⟩) (sl y8 (sl y10 (sl (!t3) (sl a0 (k ⟨1,y4,y3,s.p9+1,y7⟩) z) (k ⟨1,y4,y3,s.p9,s.eh5⟩)) z) z)) (sl y8 (sl (M3 y6 t1.1) (sl (!t4) (sl a0 (sl y5 (k ⟨1,y4,y0,s.p9+1,y2⟩) (sl y8 (sl y10 (sl (!t3) (sl (Nat.beq (s.p9+1) (len y2)&&Nat.ble (((s.p9+1)+1)*32) room) (k ⟨1,y4,y1,(s.p9+1)+1,app y2 [[i t2.n.x,i t2.n.y,i t2.n.z,i t2.b]]⟩) z) (k ⟨1,y4,y1,s.p9+1,y2⟩)) z) z)) z) (sl y5 (k ⟨1,y4,y0,s.p9,s.eh5⟩) (sl y8 (sl y10 (sl (!t3) (sl a0 (k ⟨1,y4,y1,s.p9+1,y7⟩) z) (k ⟨1,y4,y1,s.p9,s.eh5⟩)) z) z))) z) z)) (k ⟨1,y4,s.eh4,s.p9,s.eh5⟩)) (sl t1.2 z (k ⟨1,y4,s.eh4,s.p9,s.eh5⟩))) z) z) z) z) (e 2))
def G6(p:M1)(s:p6):Stp p6:=(sel (Nat.beq s.ph 1) (M6 .next .exit .fail p s) (M5 .next .exit .fail p s))
abbrev aa2:B2:=⟨0,1,true,some [[.c 3 (nL tV)]]⟩
def Ia7(a:List a7)(H:List a8):M1:=⟨aIq a 3,aIq a 4,aIq a 9,aIq a 10,aIq a 16,aIq a 17,aIq a 23,hLq tV H 0 0 0,hLq tV H 1 0 0⟩
def Ea5:Lo M1 p6:=⟨En ta0,0,Ad2,[1,1,1,1,1,0,1,4,4,1,4,4,1,1,0,4,1,1,4,4,1,1,0,4,1,1,4,4],[1,3,4,9,10,16,17,23,24,60,62,63,64,66,67],.p,[⟨sUq::sPq 0::sUq::sIq::sIq::ru2 4 (sIq::sIq::ru2 5 (sIq::sIq::ru2 5 (sIq::sIq::ru2 35 (.s (.o (.lit .i64 0))::sUq::sPq 1::.s (.o .nil)::.s (.o (.lit .i64 0))::sUq::sPq 2::sPq 3::ru2 28 [])))),[aa2,aa2,⟨0,0,true,some [[.o (.ptr 4 0 0 0)]]⟩,⟨0,0,true,some [[.o .nil]]⟩,⟨141,0,true,none⟩],λa H=>(Ia7 a H,⟨0,aIq a 24,elT H 4,0,[]⟩)⟩,⟨sUq::sPq 0::sUq::sIq::sIq::ru2 4 (sIq::sIq::ru2 5 (sIq::sIq::ru2 5 (sIq::sIq::ru2 35 (.s (.o (.lit .i64 0))::sUq::sPq 1::.s (.o .nil)::.s (.o (.lit .i64 0))::sUq::sPq 2::sPq 3::ru2 28 [])))),[aa2,aa2,⟨0,0,true,some [[.o (.ptr 4 0 0 0)]]⟩,⟨0,0,true,some [[.o (.sl 5 0 (some 0) none)]]⟩,⟨141,0,true,none⟩,⟨66,4,true,none⟩],λa H=>(Ia7 a H,⟨1,aIq a 24,elT H 4,slN (slT (rwT (elT H 3) 0) 0),elT H 5⟩)⟩],G6,[(some 4,λp s=>upq (Pa1 p s) [(25,b (decide (s.E2<p.Lb1)))]),(some 4,λp s=>upq (Pa2 p s) [(25,b (decide (s.E2<p.Lb1)))])],Ib4⟩
theorem Ib5:Ea5.OkM:=Lo.okMq [] .nil λp s=>(.sel (Nat.beq s.ph 1) (.ofq @M6) (.ofq @M5))
structure o7 where
 ph:Nat
 B6:Int
 (c7 g8:List V3)
 eh4:List (List a7)
 p9:Nat
 eh5:List (List a7)
def Pa3(p:S3)(s:o7):St:=⟨.unk::.ptr 0 0 0 0::.unk::i p.is3::ra 5 (i p.is9::i p.q9::ra 5 (i p.Ga3::i s.B6::ra 42 (i 0::.unk::.ptr 1 0 0 0::nlq::i 0::.unk::.ptr 2 0 0 0::.ptr 3 0 0 0::ra 28 []))),[bq 0 1 [[eL tV s.c7]],bq 0 1 [[eL tV s.g8]],bq 0 0 [[.ptr 4 0 0 0]],bq 0 0 [[nlq]],bq 141 0 s.eh4]⟩
def Pa4(p:S3)(s:o7):St:=⟨.unk::.ptr 0 0 0 0::.unk::i p.is3::ra 5 (i p.is9::i p.q9::ra 5 (i p.Ga3::i s.B6::ra 42 (i 0::.unk::.ptr 1 0 0 0::nlq::i 0::.unk::.ptr 2 0 0 0::.ptr 3 0 0 0::ra 28 []))),[bq 0 1 [[eL tV s.c7]],bq 0 1 [[eL tV s.g8]],bq 0 0 [[.ptr 4 0 0 0]],bq 0 0 [[.sl 5 0 s.p9 0]],bq 141 0 s.eh4,bq 66 4 s.eh5]⟩
def Ib6(p:S3)(s:o7):St:=(sel (Nat.beq s.ph 1) (Pa4 p s) (Pa3 p s))
def M7{α:Type}(k:o7->α)(e:Nat->α)(z:α)(p:S3)(s:o7):α:=let y1:=(rt tV s.g8);let y0:=(rt tV s.c7);let t1:=(lp (G6 (⟨p.is3,s.B6,p.is9,p.q9,p.Ga3,s.B6,(↑(s.B6.toNat-0):Int),y0,y1⟩:M1)) (⟨0,0,s.eh4,0,[]⟩:p6));(sl (decide (s.B6<p.Ga3)) (sl (inB s.B6 ((List.length s.c7)+1)) (sl ((cnE tV s.c7)&&((cnE tV s.g8)&&true)) (sl (Nat.beq t1.1 1) (k ⟨0,W (s.B6+1),y0,y1,t1.2.eh4,0,[]⟩) (sl (Nat.beq t1.1 2) (k ⟨1,W (s.B6+1),y0,y1,t1.2.eh4,t1.2.p9,t1.2.eh5⟩) z)) z) z) (e 1))
def M8{α:Type}(k:o7->α)(e:Nat->α)(z:α)(p:S3)(s:o7):α:=let y1:=(rt tV s.g8);let y0:=(rt tV s.c7);let t1:=(lp (G6 (⟨p.is3,s.B6,p.is9,p.q9,p.Ga3,s.B6,(↑(s.B6.toNat-0):Int),y0,y1⟩:M1)) (⟨1,0,s.eh4,s.p9,s.eh5⟩:p6));(sl (decide (s.B6<p.Ga3)) (sl (inB s.B6 ((List.length s.c7)+1)) (sl ((cnE tV s.c7)&&((cnE tV s.g8)&&true)) (sl (Nat.beq t1.1 1) (k ⟨0,W (s.B6+1),y0,y1,t1.2.eh4,0,[]⟩) (sl (Nat.beq t1.1 2) (k ⟨1,W (s.B6+1),y0,y1,t1.2.eh4,t1.2.p9,t1.2.eh5⟩) z)) z) z) (e 2))
def K6(p:S3)(s:o7):Stp o7:=(sel (Nat.beq s.ph 1) (M8 .next .exit .fail p s) (M7 .next .exit .fail p s))
abbrev aa3:B2:=⟨0,1,true,some [[.c 3 (nL tV)]]⟩
def Ea6:Lo S3 o7:=⟨En ta0,0,Ad2,[1,1,1,1,1,0,1,4,4,1,4,4,1,1,0,4,1,1,4,4],[1,3,9,10,16,17,60,62,63,64,66,67],.s .p (.s .p (.s (.b (.s .p (.s .p (.b (.u Ea5.lsM))))) .p)),[⟨sUq::sPq 0::sUq::sIq::ru2 5 (sIq::sIq::ru2 5 (sIq::sIq::ru2 42 (.s (.o (.lit .i64 0))::sUq::sPq 1::.s (.o .nil)::.s (.o (.lit .i64 0))::sUq::sPq 2::sPq 3::ru2 28 []))),[aa3,aa3,⟨0,0,true,some [[.o (.ptr 4 0 0 0)]]⟩,⟨0,0,true,some [[.o .nil]]⟩,⟨141,0,true,none⟩],λa H=>(⟨aIq a 3,aIq a 9,aIq a 10,aIq a 16⟩,⟨0,aIq a 17,hLq tV H 0 0 0,hLq tV H 1 0 0,elT H 4,0,[]⟩)⟩,⟨sUq::sPq 0::sUq::sIq::ru2 5 (sIq::sIq::ru2 5 (sIq::sIq::ru2 42 (.s (.o (.lit .i64 0))::sUq::sPq 1::.s (.o .nil)::.s (.o (.lit .i64 0))::sUq::sPq 2::sPq 3::ru2 28 []))),[aa3,aa3,⟨0,0,true,some [[.o (.ptr 4 0 0 0)]]⟩,⟨0,0,true,some [[.o (.sl 5 0 (some 0) none)]]⟩,⟨141,0,true,none⟩,⟨66,4,true,none⟩],λa H=>(⟨aIq a 3,aIq a 9,aIq a 10,aIq a 16⟩,⟨1,aIq a 17,hLq tV H 0 0 0,hLq tV H 1 0 0,elT H 4,slN (slT (rwT (elT H 3) 0) 0),elT H 5⟩)⟩],K6,[(some 2,λp s=>upq (Pa3 p s) [(18,b (decide (s.B6<p.Ga3)))]),(some 2,λp s=>upq (Pa4 p s) [(18,b (decide (s.B6<p.Ga3)))])],Ib6⟩
theorem Ib7:Ea6.OkM:=Lo.okMq [Ea5.prM] (.cons Ib5 .nil) λp s=>(.sel (Nat.beq s.ph 1) (.ofq @M8) (.ofq @M7))
structure p7 where
 ph:Nat
 q9:Int
 (c7 g8:List V3)
 eh4:List (List a7)
 p9:Nat
 eh5:List (List a7)
def Pa5(p:A6)(s:p7):St:=⟨.unk::.ptr 0 0 0 0::ra 7 (i p.is9::i s.q9::ra 49 (i 0::.unk::.ptr 1 0 0 0::nlq::i 0::.unk::.ptr 2 0 0 0::.ptr 3 0 0 0::ra 28 [])),[bq 0 1 [[eL tV s.c7]],bq 0 1 [[eL tV s.g8]],bq 0 0 [[.ptr 4 0 0 0]],bq 0 0 [[nlq]],bq 141 0 s.eh4]⟩
def Pa6(p:A6)(s:p7):St:=⟨.unk::.ptr 0 0 0 0::ra 7 (i p.is9::i s.q9::ra 49 (i 0::.unk::.ptr 1 0 0 0::nlq::i 0::.unk::.ptr 2 0 0 0::.ptr 3 0 0 0::ra 28 [])),[bq 0 1 [[eL tV s.c7]],bq 0 1 [[eL tV s.g8]],bq 0 0 [[.ptr 4 0 0 0]],bq 0 0 [[.sl 5 0 s.p9 0]],bq 141 0 s.eh4,bq 66 4 s.eh5]⟩
def Ib8(p:A6)(s:p7):St:=(sel (Nat.beq s.ph 1) (Pa6 p s) (Pa5 p s))
def M9{α:Type}(k:p7->α)(e:Nat->α)(z:α)(p:A6)(s:p7):α:=let t1:=(lp (K6 (⟨s.q9,p.is9,s.q9,(↑(s.q9.toNat-0):Int)⟩:S3)) (⟨0,0,rt tV s.c7,rt tV s.g8,s.eh4,0,[]⟩:o7));(sl (decide (s.q9<p.is9)) (sl (inB s.q9 ((List.length s.c7)+1)) (sl ((cnE tV s.c7)&&((cnE tV s.g8)&&true)) (sl (Nat.beq t1.1 1) (k ⟨0,W (s.q9+1),t1.2.c7,t1.2.g8,t1.2.eh4,0,[]⟩) (sl (Nat.beq t1.1 2) (k ⟨1,W (s.q9+1),t1.2.c7,t1.2.g8,t1.2.eh4,t1.2.p9,t1.2.eh5⟩) z)) z) z) (e 1))
def N0{α:Type}(k:p7->α)(e:Nat->α)(z:α)(p:A6)(s:p7):α:=let t1:=(lp (K6 (⟨s.q9,p.is9,s.q9,(↑(s.q9.toNat-0):Int)⟩:S3)) (⟨1,0,rt tV s.c7,rt tV s.g8,s.eh4,s.p9,s.eh5⟩:o7));(sl (decide (s.q9<p.is9)) (sl (inB s.q9 ((List.length s.c7)+1)) (sl ((cnE tV s.c7)&&((cnE tV s.g8)&&true)) (sl (Nat.beq t1.1 1) (k ⟨0,W (s.q9+1),t1.2.c7,t1.2.g8,t1.2.eh4,0,[]⟩) (sl (Nat.beq t1.1 2) (k ⟨1,W (s.q9+1),t1.2.c7,t1.2.g8,t1.2.eh4,t1.2.p9,t1.2.eh5⟩) z)) z) z) (e 2))
def ka3(p:A6)(s:p7):Stp p7:=(sel (Nat.beq s.ph 1) (N0 .next .exit .fail p s) (M9 .next .exit .fail p s))
abbrev aa4:B2:=⟨0,1,true,some [[.c 3 (nL tV)]]⟩
def Ea7:Lo A6 p7:=⟨En ta0,0,Ad2,[1,1,1,1,1,0,1,4,4,1,4,4],[1,9,10,60,62,63,64,66,67],.s .p (.s .p (.s (.b (.s .p (.s .p (.b (.u Ea6.lsM))))) .p)),[⟨sUq::sPq 0::ru2 7 (sIq::sIq::ru2 49 (.s (.o (.lit .i64 0))::sUq::sPq 1::.s (.o .nil)::.s (.o (.lit .i64 0))::sUq::sPq 2::sPq 3::ru2 28 [])),[aa4,aa4,⟨0,0,true,some [[.o (.ptr 4 0 0 0)]]⟩,⟨0,0,true,some [[.o .nil]]⟩,⟨141,0,true,none⟩],λa H=>(⟨aIq a 9⟩,⟨0,aIq a 10,hLq tV H 0 0 0,hLq tV H 1 0 0,elT H 4,0,[]⟩)⟩,⟨sUq::sPq 0::ru2 7 (sIq::sIq::ru2 49 (.s (.o (.lit .i64 0))::sUq::sPq 1::.s (.o .nil)::.s (.o (.lit .i64 0))::sUq::sPq 2::sPq 3::ru2 28 [])),[aa4,aa4,⟨0,0,true,some [[.o (.ptr 4 0 0 0)]]⟩,⟨0,0,true,some [[.o (.sl 5 0 (some 0) none)]]⟩,⟨141,0,true,none⟩,⟨66,4,true,none⟩],λa H=>(⟨aIq a 9⟩,⟨1,aIq a 10,hLq tV H 0 0 0,hLq tV H 1 0 0,elT H 4,slN (slT (rwT (elT H 3) 0) 0),elT H 5⟩)⟩],ka3,[(some 0,λp s=>upq (Pa5 p s) [(11,b (decide (s.q9<p.is9)))]),(some 0,λp s=>upq (Pa6 p s) [(11,b (decide (s.q9<p.is9)))])],Ib8⟩
theorem Ib9:Ea7.OkM:=Lo.okMq [Ea6.prM] (.cons Ib7 .nil) λp s=>(.sel (Nat.beq s.ph 1) (.ofq @N0) (.ofq @M9))
def W7(x:V3×List V3):ROq:=let t1:=(fa5 (rt tV (x.1::x.2)));let t2:=(xa1 (hC tV (λk=>(tV).row (gL tV (x.1::x.2) k)),tC tV (List.length x.2) (λk=>(tV).row (gL tV (x.1::x.2) k))));let t3:=(lp (ka3 (⟨(↑(List.length t2):Int)⟩:A6)) (⟨0,0,rt tV t2,rt tV t2,[],0,[]⟩:p7));(sl (okE tV (x.1::x.2)) (sl (fa6 (rt tV (x.1::x.2))) (sl (t1 != 0) (some (.tup [nlq,i t1],[])) (sl (okL tV (List.length x.2+1) (λk=>(tV).row (gL tV (x.1::x.2) k))) (sl (xa2 (hC tV (λk=>(tV).row (gL tV (x.1::x.2) k)),tC tV (List.length x.2) (λk=>(tV).row (gL tV (x.1::x.2) k)))) (sl ((cnE tV t2)&&((cnE tV t2)&&true)) (sl (Nat.beq t3.1 1) none (sl (Nat.beq t3.1 2) (sl (Bool.and (Nat.ble t3.2.p9 room) (Bool.and (Nat.ble t3.2.p9 (len t3.2.eh5)) (okS tP t3.2.eh5 0 t3.2.p9))) (some (.tup [.sl 0 0 t3.2.p9 0,i 0],[bq 66 4 (app (bL tP (jb1 (slR tP t3.2.eh5 0 t3.2.p9))) (i5 t3.2.eh5 t3.2.p9))])) none) none)) none) none) none)) none) none)
def Aa5(x:V3×List V3):PLq×Int:=N4 (two (r1L tP) r1I) (W7 x)
def Aa6(x:V3×List V3):Bool:=okO (two (r1L tP) r1I) (W7 x)
def tb6:Sum:=G9 (vc9 tV) (λx=>.guard (Aa6 x) (.ret ((two (r1L tP) r1I).enc (Aa5 x),[])))
theorem jb4:d6 prog G 70 tb6:=lc5 (bd b70 Vb1) (two (r1L tP) r1I) (o:=W7) λx=>Tb1 (.s .p (.s .p (.s .p (.s .p (.s .p (.s (.s .p (.b (.i (.s .p (.b (.u Ea7.lsM)))))) .p)))))) [Ea7.prM] (.cons Ib9 .nil)
structure xa3 where
 (Qa3 Qa4 Qa5 ue7 f0 e8 g7:Int)
def Ab7:List (Nat×Sum):=[(72,Ia1)]
theorem tb7:w7 prog G Ab7:=⟨Sa9,trivial⟩
structure xa4 where
 bs0:Bool
def xa5{α:Type}(kk:xa4->α)(x:xa3):α:=let t1:=(G5 (⟨x.f0,x.e8,x.g7⟩:V3) (⟨x.Qa3,x.Qa4,x.Qa5⟩:V3));(kk ⟨t1 != 0⟩)
def xa6(x:xa3):xa4:=xa5 (λr=>r) x
def Pa7(x:xa3)(r:xa4):DT (a7×List a8):=.ret (b r.bs0,[bq 0 3 [[i x.f0,i x.e8,i x.g7]]])
def Va6:Sum:=Sa0 ⟨[.agg (kLq 4),sPq 0],[⟨0,3,true,some [kLq 3]⟩],λa H=>(⟨cIq a 0 0,cIq a 0 1,cIq a 0 2,cIq a 0 3,hIq H 0 0 0,hIq H 0 0 1,hIq H 0 0 2⟩,())⟩ (λx=>Pa7 x (xa6 x))
theorem Ab8:d6 prog G 137 Va6:=R4 (enc:=λx=>⟨[.agg [i x.Qa3,i x.Qa4,i x.Qa5,i x.ue7],.ptr 0 0 0 0],[bq 0 3 [[i x.f0,i x.e8,i x.g7]]]⟩) (λa H=>by kernel_rfl) (bd ye7 tb7) λx=>ya6 (mEq @xa5 (λr=>(Pa7 x r).run) x)
structure P6 where
 M4:PLq
 (f0 e8 g7:Int)
def da4:List (Nat×Sum):=[(137,Va6)]
theorem Aa7:w7 prog G da4:=⟨Ab8,trivial⟩
structure w5 where
 M4:PLq
 (is7 f0 e8 g7:Int)
def Y0(p:w5)(s:k8):St:=⟨eL tP p.M4::.fn 137 [.ptr 0 0 0 0]::ra 5 (i p.is7::i s.is8::ra 10 []),[bq 0 3 [[i p.f0,i p.e8,i p.g7]]]⟩
def C3{α:Type}(k:k8->α)(e:Nat->α)(z:α)(p:w5)(s:k8):α:=let y0:=(gL tP p.M4 s.is8.toNat);let t1:=(xa6 ⟨y0.n.x,y0.n.y,y0.n.z,y0.b,p.f0,p.e8,p.g7⟩);(sl (decide (s.is8<p.is7)) (sl (inB s.is8 (List.length p.M4)) (sl t1.bs0 (e 1) (k ⟨W (s.is8+1)⟩)) z) (e 2))
def r9(p:w5)(s:k8):Stp k8:=C3 .next .exit .fail p s
def L5:Lo w5 k8:=⟨En da4,1,kd6,[1,0,1,4,4],[0,1,7,8],.p,[⟨sLq tP::.fn 137 [.o (.ptr 0 0 0 0)]::ru2 5 (sIq::sIq::ru2 10 []),[⟨0,3,true,some [kLq 3]⟩],λa H=>(⟨aLq tP a 0,aIq a 7,hIq H 0 0 0,hIq H 0 0 1,hIq H 0 0 2⟩,⟨aIq a 8⟩)⟩],r9,[(none,λp s=>⟨[i s.is8],[bq 0 3 [[i p.f0,i p.e8,i p.g7]]]⟩),(some 0,λp s=>upq (Y0 p s) [(9,b (decide (s.is8<p.is7)))])],Y0⟩
theorem xa7:L5.Ok:=Lo.okq [] .nil λp s=>(.ofq @C3)
def P8{α:Type}(kk:T8->α)(x:P6):α:=let t1:=(lp (r9 (⟨rt tP x.M4,(↑(List.length x.M4):Int),x.f0,x.e8,x.g7⟩:w5)) (⟨0⟩:k8));(sl ((cnE tP x.M4)&&true) (sl (Nat.beq t1.1 1) (kk ⟨1,t1.2.is8⟩) (sl (Nat.beq t1.1 2) (kk ⟨1,-1⟩) (kk ⟨0,0⟩))) (kk ⟨0,0⟩))
def H4(x:P6):T8:=P8 (λr=>r) x
def da5(x:P6)(r:T8):DT (a7×List a8):=(gb7 r.alt 1 (i r.is0,[bq 0 3 [[i x.f0,i x.e8,i x.g7]]]) .fail)
def ga0:Sum:=Sa0 ⟨[sLq tP,.fn 137 [.o (.ptr 0 0 0 0)]],[⟨0,3,true,some [kLq 3]⟩],λa H=>(⟨aLq tP a 0,hIq H 0 0 0,hIq H 0 0 1,hIq H 0 0 2⟩,())⟩ (λx=>da5 x (H4 x))
theorem Ea8:d6 prog G 156 ga0:=R4 (enc:=λx=>⟨[eL tP x.M4,.fn 137 [.ptr 0 0 0 0]],[bq 0 3 [[i x.f0,i x.e8,i x.g7]]]⟩) (λa H=>by kernel_rfl) (bd oe1 Aa7) λx=>Ha8 (.s .p (.s (.s .p (.b (.u L5.ls))) .p)) [L5.pr] (.cons xa7 .nil) (mEq @P8 (λr=>(da5 x r).run) x)
def ta9:List (Nat×Sum):=[(156,ga0)]
theorem ra6:w7 prog G ta9:=⟨Ea8,trivial⟩
def K9{α:Type}(kk:La2->α)(x:P6):α:=let t1:=(H4 ⟨rt tP x.M4,x.f0,x.e8,x.g7⟩);(sl ((cnE tP x.M4)&&true) (sl (Nat.beq t1.alt 1) (kk ⟨1,decide (t1.is0>=0)⟩) (kk ⟨0,false⟩)) (kk ⟨0,false⟩))
def C9(x:P6):La2:=K9 (λr=>r) x
def V6(x:P6)(r:La2):DT (a7×List a8):=(gb7 r.alt 1 (b r.bs0,[bq 0 3 [[i x.f0,i x.e8,i x.g7]]]) .fail)
def Y1:Sum:=Sa0 ⟨[sLq tP,.fn 137 [.o (.ptr 0 0 0 0)]],[⟨0,3,true,some [kLq 3]⟩],λa H=>(⟨aLq tP a 0,hIq H 0 0 0,hIq H 0 0 1,hIq H 0 0 2⟩,())⟩ (λx=>V6 x (C9 x))
theorem ua0:d6 prog G 135 Y1:=R4 (enc:=λx=>⟨[eL tP x.M4,.fn 137 [.ptr 0 0 0 0]],[bq 0 3 [[i x.f0,i x.e8,i x.g7]]]⟩) (λa H=>by kernel_rfl) (bd oe0 ra6) λx=>ya6 (mEq @K9 (λr=>(V6 x r).run) x)
def Ea9:List (Nat×Sum):=[(73,Ka4),(135,Y1)]
theorem Jb0:w7 prog G Ea9:=⟨ab7,ua0,trivial⟩
structure Y2 where
 (M4 Gb4:PLq)
 (is9 q9:Int)
 ue8:Nat
 ue9:Nat->List a7
 (Id7 f0 e8 g7 n4:Int)
structure G7 where
 Lc2:Int
def Pa8(p:Y2)(s:G7):St:=⟨eL tP p.M4::ra 3 (.ptr 0 0 0 0::ra 3 (eL tP p.Gb4::i p.is9::i p.q9::ra 6 (.tree 4 p.ue8 p.ue9::i p.Id7::i s.Lc2::ra 18 []))),[bq 0 4 [[i p.f0,i p.e8,i p.g7,i p.n4]]]⟩
def aa5{α:Type}(k:G7->α)(e:Nat->α)(z:α)(p:Y2)(s:G7):α:=let y0:=(p.ue9 s.Lc2.toNat);let t1:=(L8 (⟨p.f0,p.e8,p.g7⟩:V3) (⟨toI (hdA y0),toI (hdA (tlA y0)),toI (hdA (tlA (tlA y0)))⟩:V3));let t2:=(C9 ⟨rt tP p.M4,t1.x,t1.y,t1.z⟩);(sl (decide (s.Lc2<p.Id7)) (sl (inB s.Lc2 p.ue8) (sl ((Nat.ble 4 (len y0))&&(Ga5 [CK.int .i64,CK.int .i64,CK.int .i64,CK.int .i64] y0)) (sl (!((t1.x==0)&&((t1.y==0)&&((t1.z==0)&&true)))) (sl ((cnE tP p.M4)&&true) (sl (Nat.beq t2.alt 1) (sl t2.bs0 (e 1) (k ⟨W (s.Lc2+1)⟩)) z) z) (k ⟨W (s.Lc2+1)⟩)) z) z) (e 2))
def N1(p:Y2)(s:G7):Stp G7:=aa5 .next .exit .fail p s
def xa8:Lo Y2 G7:=⟨En Ea9,0,kd4,[1,0,1,4,4,1,1,0,4,1,1,4,4],[0,4,8,9,10,17,18,19],.p,[⟨sLq tP::ru2 3 (sPq 0::ru2 3 (sLq tP::sIq::sIq::ru2 6 (sTq 4::sIq::sIq::ru2 18 []))),[⟨0,4,true,some [kLq 4]⟩],λa H=>(⟨aLq tP a 0,aLq tP a 8,aIq a 9,aIq a 10,aNq a 17,aGq a 17,aIq a 18,hIq H 0 0 0,hIq H 0 0 1,hIq H 0 0 2,hIq H 0 0 3⟩,⟨aIq a 19⟩)⟩],N1,[(none,λp s=>⟨[b true],[]⟩),(some 2,λp s=>upq (Pa8 p s) [(20,b (decide (s.Lc2<p.Id7)))])],Pa8⟩
theorem Ab9:xa8.Ok:=Lo.okq [] .nil λp s=>(.ofq @aa5)
structure G8 where
 (M4 Gb4:PLq)
 q9:Int
def Pa9(p:A6)(s:G8):St:=⟨eL tP s.M4::ra 7 (eL tP s.Gb4::i p.is9::i s.q9::ra 27 []),[]⟩
def aa6{α:Type}(k:G8->α)(e:Nat->α)(z:α)(p:A6)(s:G8):α:=let y0:=(gL tP s.Gb4 s.q9.toNat);let t1:=(lp (N1 (⟨rt tP s.M4,rt tP s.Gb4,p.is9,s.q9,s.q9.toNat-0,(λk=>(λk=>(tP).row (gL tP s.M4 k)) (0+k)),(↑(s.q9.toNat-0):Int),y0.n.x,y0.n.y,y0.n.z,y0.b⟩:Y2)) (⟨0⟩:G7));(sl (decide (s.q9<p.is9)) (sl (inB s.q9 (List.length s.Gb4)) (sl (inB s.q9 ((List.length s.M4)+1)) (sl ((cnE tP s.M4)&&((cnE tP s.Gb4)&&true)) (sl (Nat.beq t1.1 1) (e 1) (sl (Nat.beq t1.1 2) (k ⟨rt tP s.M4,rt tP s.Gb4,W (s.q9+1)⟩) z)) z) z) z) (e 2))
def N2(p:A6)(s:G8):Stp G8:=aa6 .next .exit .fail p s
def xa9:Lo A6 G8:=⟨En Ea9,0,kd4,[1,0,1,4,4],[0,8,9,10],.s .p (.s .p (.s (.b (.s .p (.s .p (.b (.u xa8.ls))))) .p)),[⟨sLq tP::ru2 7 (sLq tP::sIq::sIq::ru2 27 []),[],λa H=>(⟨aIq a 9⟩,⟨aLq tP a 0,aLq tP a 8,aIq a 10⟩)⟩],N2,[(none,λp s=>⟨[b true],[]⟩),(some 0,λp s=>upq (Pa9 p s) [(11,b (decide (s.q9<p.is9)))])],Pa9⟩
theorem Bb0:xa9.Ok:=Lo.okq [xa8.pr] (.cons Ab9 .nil) λp s=>(.ofq @aa6)
def ia7(x:PLq):ROq:=let t1:=(lp (N2 (⟨(↑(List.length x):Int)⟩:A6)) (⟨rt tP x,rt tP x,0⟩:G8));(sl ((cnE tP x)&&((cnE tP x)&&true)) (sl (Nat.beq t1.1 1) (some (b true,[])) (sl (Nat.beq t1.1 2) (some (b false,[])) none)) none)
def Y7(x:PLq):Bool:=N4 (one r1B) (ia7 x)
def Y8(x:PLq):Bool:=okO (one r1B) (ia7 x)
def jb5:Sum:=G9 (ga2 tP) (λx=>.guard (Y8 x) (.ret ((one r1B).enc (Y7 x),[])))
theorem Vb2:d6 prog G 108 jb5:=lc5 (bd xe6 Jb0) (one r1B) (o:=ia7) λx=>Ha8 (.s .p (.s (.s .p (.b (.u xa9.ls))) .p)) [xa9.pr] (.cons Bb0 .nil)
structure ra7 where
 (Qa3 Qa4 Qa5:Int)
 I0:PLq
def Ia8:List (Nat×Sum):=[(74,za4),(108,jb5)]
theorem nb5:w7 prog G Ia8:=⟨La0,Vb2,trivial⟩
structure r6 where
 ic2:PLq
 is8:Int
 I0:PLq
 (W9 X0 X1:Int)
structure j5 where
 ph:Nat
 is9:Int
 ns4:Nat
 eh2:List (List a7)
def ua1(p:r6)(s:j5):St:=⟨.unk::.unk::.ptr 1 0 0 0::.unk::nlq::.unk::.unk::eL tP p.ic2::i p.is8::i s.is9::ra 15 [],[bq 0 1 [[eL tP p.I0]],bq 0 3 [[i p.W9,i p.X0,i p.X1]]]⟩
def ua2(p:r6)(s:j5):St:=⟨.unk::.unk::.ptr 1 0 0 0::.unk::.sl 2 0 s.ns4 0::.unk::.unk::eL tP p.ic2::i p.is8::i s.is9::ra 15 [],[bq 0 1 [[eL tP p.I0]],bq 0 3 [[i p.W9,i p.X0,i p.X1]],bq 66 4 s.eh2]⟩
def gb9(p:r6)(s:j5):St:=(sel (Nat.beq s.ph 1) (ua2 p s) (ua1 p s))
def D3{α:Type}(k:j5->α)(e:Nat->α)(z:α)(p:r6)(s:j5):α:=let y1:=(⟨p.W9,p.X0,p.X1⟩:V3);let y0:=(gL tP p.ic2 s.is9.toNat);let t1:=(W0 y0 y1);(sl (decide (s.is9<p.is8)) (sl (inB s.is9 (List.length p.ic2)) (sl (W4 y0 y1) (sl (t1==0) (k ⟨1,W (s.is9+1),1,[[i y0.n.x,i y0.n.y,i y0.n.z,i y0.b]]⟩) (k ⟨0,W (s.is9+1),0,[]⟩)) z) z) (e 1))
def D4{α:Type}(k:j5->α)(e:Nat->α)(z:α)(p:r6)(s:j5):α:=let y1:=(⟨p.W9,p.X0,p.X1⟩:V3);let y0:=(gL tP p.ic2 s.is9.toNat);let t1:=(W0 y0 y1);(sl (decide (s.is9<p.is8)) (sl (inB s.is9 (List.length p.ic2)) (sl (W4 y0 y1) (sl (t1==0) (sl (Nat.beq s.ns4 (len s.eh2)&&Nat.ble ((s.ns4+1)*32) room) (k ⟨1,W (s.is9+1),s.ns4+1,app s.eh2 [[i y0.n.x,i y0.n.y,i y0.n.z,i y0.b]]⟩) z) (k ⟨1,W (s.is9+1),s.ns4,s.eh2⟩)) z) z) (e 2))
def S7(p:r6)(s:j5):Stp j5:=(sel (Nat.beq s.ph 1) (D4 .next .exit .fail p s) (D3 .next .exit .fail p s))
def pa9(a:List a7)(H:List a8):r6:=⟨aLq tP a 7,aIq a 8,hLq tP H 0 0 0,hIq H 1 0 0,hIq H 1 0 1,hIq H 1 0 2⟩
def la4:Lo r6 j5:=⟨En Ia8,1,Kd7,[1,1,0,1,4,4],[2,4,7,8,9],.p,[⟨sUq::sUq::sPq 1::sUq::.s (.o .nil)::sUq::sUq::sLq tP::sIq::sIq::ru2 15 [],[⟨0,1,true,some [[.c 4 (nL tP)]]⟩,⟨0,3,true,some [kLq 3]⟩],λa H=>(pa9 a H,⟨0,aIq a 9,0,[]⟩)⟩,⟨sUq::sUq::sPq 1::sUq::.s (.o (.sl 2 0 (some 0) none))::sUq::sUq::sLq tP::sIq::sIq::ru2 15 [],[⟨0,1,true,some [[.c 4 (nL tP)]]⟩,⟨0,3,true,some [kLq 3]⟩,⟨66,4,true,none⟩],λa H=>(pa9 a H,⟨1,aIq a 9,slN (slT a 4),elT H 2⟩)⟩],S7,[(some 0,λp s=>upq (ua1 p s) [(10,b (decide (s.is9<p.is8)))]),(some 0,λp s=>upq (ua2 p s) [(10,b (decide (s.is9<p.is8)))])],gb9⟩
theorem hb5:la4.Ok:=Lo.okq [] .nil λp s=>(.sel (Nat.beq s.ph 1) (.ofq @D4) (.ofq @D3))
structure ra8 where
 alt:Nat
 bs0:Bool
 I0:PLq
def ra9{α:Type}(kk:ra8->α)(x:ra7):α:=let y0:=(rt tP x.I0);let t1:=(lp (S7 (⟨y0,(↑(List.length x.I0):Int),y0,x.Qa3,x.Qa4,x.Qa5⟩:r6)) (⟨0,0,0,[]⟩:j5));let t2:=(Y7 []);let t3:=(Y7 (slR tP t1.2.eh2 0 t1.2.ns4));(sl ((cnE tP x.I0)&&((cnE tP x.I0)&&true)) (sl (Nat.beq t1.1 1) (sl (Y8 []) (kk ⟨1,!t2,y0⟩) (kk ⟨0,false,[]⟩)) (sl (Nat.beq t1.1 2) (sl (okS tP t1.2.eh2 0 t1.2.ns4) (sl (Y8 (slR tP t1.2.eh2 0 t1.2.ns4)) (kk ⟨1,!t3,y0⟩) (kk ⟨0,false,[]⟩)) (kk ⟨0,false,[]⟩)) (kk ⟨0,false,[]⟩))) (kk ⟨0,false,[]⟩))
def H9(x:ra7):ra8:=ra9 (λr=>r) x
def Ia9(x:ra7)(r:ra8):DT (a7×List a8):=(gb7 r.alt 1 (b r.bs0,[bq 0 1 [[eL tP r.I0]]]) .fail)
def sa0:Sum:=Sa0 ⟨[.agg (kLq 3),sPq 0],[⟨0,1,true,some [[.c 4 (nL tP)]]⟩],λa H=>(⟨cIq a 0 0,cIq a 0 1,cIq a 0 2,hLq tP H 0 0 0⟩,())⟩ (λx=>Ia9 x (H9 x))
theorem Ja0:d6 prog G 107 sa0:=R4 (enc:=λx=>⟨[.agg [i x.Qa3,i x.Qa4,i x.Qa5],.ptr 0 0 0 0],[bq 0 1 [[eL tP x.I0]]]⟩) (λa H=>by kernel_rfl) (bd xe5 nb5) λx=>Ha8 (.s .p (.s .p (.s (.s .p (.b (.u la4.ls))) .p))) [la4.pr] (.cons hb5 .nil) (mEq @ra9 (λr=>(Ia9 x r).run) x)
structure U8 where
 ns0:Nat
 eh0:List (List a7)
 o4:PLq
def ia8:List (Nat×Sum):=[(107,sa0)]
theorem Ga1:w7 prog G ia8:=⟨Ja0,trivial⟩
structure B4 where
 ns0:Nat
 is7:Int
 eh0:List (List a7)
structure l5 where
 is8:Int
 o4:PLq
def da6(p:B4)(s:l5):St:=⟨.sl 0 0 p.ns0 0::.fn 107 [.ptr 1 0 0 0]::ra 5 (i p.is7::i s.is8::ra 10 []),[bq 23 3 p.eh0,bq 0 1 [[eL tP s.o4]]]⟩
def D8{α:Type}(k:l5->α)(e:Nat->α)(z:α)(p:B4)(s:l5):α:=let y0:=(rdR tV p.eh0 (0+s.is8.toNat));let t1:=(H9 ⟨y0.x,y0.y,y0.z,rt tP s.o4⟩);(sl (decide (s.is8<p.is7)) (sl (inB s.is8 p.ns0) (sl (ldR tV p.eh0 (0+s.is8.toNat)) (sl ((cnE tP s.o4)&&true) (sl (Nat.beq t1.alt 1) (sl t1.bs0 (e 1) (k ⟨W (s.is8+1),t1.I0⟩)) z) z) z) z) (e 2))
def z8(p:B4)(s:l5):Stp l5:=D8 .next .exit .fail p s
def P9:Lo B4 l5:=⟨En ia8,2,fc6,[1,0,1,4,4],[0,1,7,8],.p,[⟨.s (.o (.sl 0 0 (some 0) none))::.fn 107 [.o (.ptr 1 0 0 0)]::ru2 5 (sIq::sIq::ru2 10 []),[⟨23,3,true,none⟩,⟨0,1,true,some [[.c 4 (nL tP)]]⟩],λa H=>(⟨slN (slT a 0),aIq a 7,elT H 0⟩,⟨aIq a 8,hLq tP H 1 0 0⟩)⟩],z8,[(none,λp s=>let t1:=(H9 ⟨(rdR tV p.eh0 (0+s.is8.toNat)).x,(rdR tV p.eh0 (0+s.is8.toNat)).y,(rdR tV p.eh0 (0+s.is8.toNat)).z,rt tP s.o4⟩);⟨[i s.is8],[bq 23 3 p.eh0,bq 0 1 [[eL tP t1.I0]]]⟩),(some 0,λp s=>upq (da6 p s) [(9,b (decide (s.is8<p.is7)))])],da6⟩
theorem Fa0:P9.Ok:=Lo.okq [] .nil λp s=>(.ofq @D8)
structure U9 where
 alt:Nat
 is0:Int
 o4:PLq
def V0{α:Type}(kk:U9->α)(x:U8):α:=let t1:=(lp (z8 (⟨x.ns0,(↑x.ns0:Int),x.eh0⟩:B4)) (⟨0,rt tP x.o4⟩:l5));let y0:=(rdR tV x.eh0 (0+t1.2.is8.toNat));let t2:=(H9 ⟨y0.x,y0.y,y0.z,rt tP t1.2.o4⟩);(sl ((cnE tP x.o4)&&true) (sl (Nat.beq t1.1 1) (kk ⟨1,t1.2.is8,t2.I0⟩) (sl (Nat.beq t1.1 2) (kk ⟨1,-1,t1.2.o4⟩) (kk ⟨0,0,[]⟩))) (kk ⟨0,0,[]⟩))
def J7(x:U8):U9:=V0 (λr=>r) x
def ia9(x:U8)(r:U9):DT (a7×List a8):=(gb7 r.alt 1 (i r.is0,[bq 23 3 x.eh0,bq 0 1 [[eL tP r.o4]]]) .fail)
def ma4:Sum:=Sa0 ⟨[.s (.o (.sl 0 0 (some 0) none)),.fn 107 [.o (.ptr 1 0 0 0)]],[⟨23,3,true,none⟩,⟨0,1,true,some [[.c 4 (nL tP)]]⟩],λa H=>(⟨slN (slT a 0),elT H 0,hLq tP H 1 0 0⟩,())⟩ (λx=>ia9 x (J7 x))
theorem Ma1:d6 prog G 131 ma4:=R4 (enc:=λx=>⟨[.sl 0 0 x.ns0 0,.fn 107 [.ptr 1 0 0 0]],[bq 23 3 x.eh0,bq 0 1 [[eL tP x.o4]]]⟩) (λa H=>by kernel_rfl) (bd kd7 Ga1) λx=>Ha8 (.s .p (.s (.s .p (.b (.u P9.ls))) .p)) [P9.pr] (.cons Fa0 .nil) (mEq @V0 (λr=>(ia9 x r).run) x)
def ja0:List (Nat×Sum):=[(131,ma4),(107,sa0)]
theorem Ga2:w7 prog G ja0:=⟨Ma1,Ja0,trivial⟩
structure B5 where
 ns0:Nat
structure n7 where
 (is5 is6:Int)
 eh0:List (List a7)
 o4:PLq
def da7(p:B5)(s:n7):St:=⟨.sl 0 0 p.ns0 0::.fn 107 [.ptr 1 0 0 0]::ra 3 (i s.is5::i s.is6::ra 35 []),[bq 23 3 s.eh0,bq 0 1 [[eL tP s.o4]]]⟩
def D9{α:Type}(k:n7->α)(e:Nat->α)(z:α)(p:B5)(s:n7):α:=let y0:=(rdR tV s.eh0 (0+s.is6.toNat));let t1:=(H9 ⟨y0.x,y0.y,y0.z,rt tP s.o4⟩);(sl (decide (s.is6<(↑p.ns0:Int))) (sl (inB s.is6 p.ns0) (sl (ldR tV s.eh0 (0+s.is6.toNat)) (sl ((cnE tP s.o4)&&true) (sl (Nat.beq t1.alt 1) (sl (!t1.bs0) (sl (inB s.is5 p.ns0) (sl ((Nat.blt (0+s.is5.toNat) (len s.eh0))&&(Nat.ble (0+3) (len (j8 s.eh0 (0+s.is5.toNat))))) (k ⟨W (s.is5+1),W (s.is6+1),setAt s.eh0 (0+s.is5.toNat) (S8 (j8 s.eh0 (0+s.is5.toNat)) 0 [i y0.x,i y0.y,i y0.z]),t1.I0⟩) z) z) (k ⟨s.is5,W (s.is6+1),s.eh0,t1.I0⟩)) z) z) z) z) (e 1))
def p8(p:B5)(s:n7):Stp n7:=D9 .next .exit .fail p s
def Q0:Lo B5 n7:=⟨En ja0,2,Kd8,[1,1,1,0,1,4,4],[0,1,5,6],.p,[⟨.s (.o (.sl 0 0 (some 0) none))::.fn 107 [.o (.ptr 1 0 0 0)]::ru2 3 (sIq::sIq::ru2 35 []),[⟨23,3,true,none⟩,⟨0,1,true,some [[.c 4 (nL tP)]]⟩],λa H=>(⟨slN (slT a 0)⟩,⟨aIq a 5,aIq a 6,elT H 0,hLq tP H 1 0 0⟩)⟩],p8,[(some 0,λp s=>upq (da7 p s) [(16,i s.is6),(17,.sl 0 0 p.ns0 0),(18,i (↑p.ns0:Int)),(19,b (decide (s.is6<(↑p.ns0:Int))))])],da7⟩
theorem Fa1:Q0.Ok:=Lo.okq [] .nil λp s=>(.ofq @D9)
structure V2 where
 (alt ns0:Nat)
 eh0:List (List a7)
 o4:PLq
def V4{α:Type}(kk:V2->α)(x:U8):α:=let t1:=(J7 ⟨x.ns0,x.eh0,rt tP x.o4⟩);let t2:=(lp (p8 (⟨x.ns0⟩:B5)) (⟨t1.is0,W (t1.is0+1),x.eh0,rt tP t1.o4⟩:n7));(sl ((cnE tP x.o4)&&true) (sl (Nat.beq t1.alt 1) (sl (t1.is0==(-1)) (kk ⟨1,x.ns0,x.eh0,t1.o4⟩) (sl ((cnE tP t1.o4)&&true) (sl (Nat.beq t2.1 1) (sl (inB t2.2.is5 (x.ns0+1)) (sl (inB t2.2.is5 (x.ns0+1)) (kk ⟨1,t2.2.is5.toNat-0,app (r7 t2.2.eh0 (0+t2.2.is5.toNat)) (app (List.replicate (x.ns0-t2.2.is5.toNat) [i 0,i 0,i 0]) (i5 t2.2.eh0 ((0+t2.2.is5.toNat)+(x.ns0-t2.2.is5.toNat)))),t2.2.o4⟩) (kk ⟨0,0,[],[]⟩)) (kk ⟨0,0,[],[]⟩)) (kk ⟨0,0,[],[]⟩)) (kk ⟨0,0,[],[]⟩))) (kk ⟨0,0,[],[]⟩)) (kk ⟨0,0,[],[]⟩))
def J8(x:U8):V2:=V4 (λr=>r) x
def ja1(x:U8)(r:V2):DT (a7×List a8):=(gb7 r.alt 1 (.sl 0 0 r.ns0 0,[bq 23 3 r.eh0,bq 0 1 [[eL tP r.o4]]]) .fail)
def ma5:Sum:=Sa0 ⟨[.s (.o (.sl 0 0 (some 0) none)),.fn 107 [.o (.ptr 1 0 0 0)]],[⟨23,3,true,none⟩,⟨0,1,true,some [[.c 4 (nL tP)]]⟩],λa H=>(⟨slN (slT a 0),elT H 0,hLq tP H 1 0 0⟩,())⟩ (λx=>ja1 x (J8 x))
theorem Ma2:d6 prog G 109 ma5:=R4 (enc:=λx=>⟨[.sl 0 0 x.ns0 0,.fn 107 [.ptr 1 0 0 0]],[bq 23 3 x.eh0,bq 0 1 [[eL tP x.o4]]]⟩) (λa H=>by kernel_rfl) (bd xe7 Ga2) λx=>Ha8 (.s .p (.s .p (.s .p (.s (.s .p (.b (.u Q0.ls))) .p)))) [Q0.pr] (.cons Fa1 .nil) (mEq @V4 (λr=>(ja1 x r).run) x)
def tb8:List (Nat×Sum):=[(138,la3),(139,Z4),(141,da3)]
theorem nb6:w7 prog G tb8:=⟨ya8,pa2,pa8,trivial⟩
def sa2{α:Type}(kk:la1->α)(x:V3×List V3):α:=let t1:=(O5 (hC tV (λk=>(tV).row (gL tV (x.1::x.2) k)),tC tV (List.length x.2) (λk=>(tV).row (gL tV (x.1::x.2) k))));let t2:=(D2 ⟨t1.ns0,app (bL tV (Va4 (slR tV t1.eh0 0 t1.ns0))) (i5 t1.eh0 t1.ns0)⟩);(sl (okL tV (List.length x.2+1) (λk=>(tV).row (gL tV (x.1::x.2) k))) (sl (Nat.beq t1.alt 1) (sl (Bool.and (Nat.ble t1.ns0 room) (Bool.and (Nat.ble t1.ns0 (len t1.eh0)) (okS tV t1.eh0 0 t1.ns0))) (sl (Nat.beq t2.alt 1) (kk ⟨1,t2.ns0,t2.eh0⟩) (kk ⟨0,0,[]⟩)) (kk ⟨0,0,[]⟩)) (kk ⟨0,0,[]⟩)) (kk ⟨0,0,[]⟩))
def fa8(x:V3×List V3):la1:=sa2 (λr=>r) x
def Ja1(r:la1):DT (a7×List a8):=(gb7 r.alt 1 (.sl 0 0 r.ns0 0,[bq 23 3 r.eh0]) .fail)
def V5:Sum:=G9 (vc9 tV) (λx=>Ja1 (fa8 x))
theorem aa7:d6 prog G 110 V5:=eb7 (bd ne7 nb6) λx=>ya6 (mEq @sa2 (λr=>(Ja1 r).run) x)
def Jb1:List (Nat×Sum):=[(70,tb6),(110,V5),(109,ma5)]
theorem Bb1:w7 prog G Jb1:=⟨jb4,aa7,Ma2,trivial⟩
def da8(x:V3×List V3):ROq:=let t1:=(Aa5 (hC tV (λk=>(tV).row (gL tV (x.1::x.2) k)),tC tV (List.length x.2) (λk=>(tV).row (gL tV (x.1::x.2) k))));let t2:=(fa8 (hC tV (λk=>(tV).row (gL tV (x.1::x.2) k)),tC tV (List.length x.2) (λk=>(tV).row (gL tV (x.1::x.2) k))));let t3:=(J8 ⟨t2.ns0,t2.eh0,rt tP t1.1⟩);(sl (okL tV (List.length x.2+1) (λk=>(tV).row (gL tV (x.1::x.2) k))) (sl (Aa6 (hC tV (λk=>(tV).row (gL tV (x.1::x.2) k)),tC tV (List.length x.2) (λk=>(tV).row (gL tV (x.1::x.2) k)))) (sl (t1.2 != 0) (some (.tup [nlq,i t1.2],[])) (sl (okL tV (List.length x.2+1) (λk=>(tV).row (gL tV (x.1::x.2) k))) (sl (Nat.beq t2.alt 1) (sl ((cnE tP t1.1)&&true) (sl (Nat.beq t3.alt 1) (some (.tup [.sl 0 0 t3.ns0 0,i 0],[bq 23 3 t3.eh0])) none) none) none) none)) none) none)
def bb6(x:V3×List V3):List V3×Int:=N4 (two (r1L tV) r1I) (da8 x)
def bb7(x:V3×List V3):Bool:=okO (two (r1L tV) r1I) (da8 x)
def Vb3:Sum:=G9 (vc9 tV) (λx=>.guard (bb7 x) (.ret ((two (r1L tV) r1I).enc (bb6 x),[])))
theorem Jb2:d6 prog G 69 Vb3:=Na9 (bd b69 Bb1) (two (r1L tV) r1I) (o:=da8)
end Go.Ev.Ce
namespace Go.Ev.L
open Go Go.Ev
def Wd0:Cod Unit where
 enc _:=.v (.slice none 0 0)
 dec x:=match x with
  |.v (.slice none 0 0)=>some ()
  |_=>none
 grd _:=true
 ok x a hx _:=by
  split at hx
  ·exact .refl _
  ·cases hx
def cE0:Cod (Addr×Nat) where
 enc z:=.v (.slice (some z.1) 0 z.2)
 dec x:=match x with
  |.v (.slice (some a) 0 c)=>some (a,c)
  |_=>none
 grd _:=true
 ok x a hx _:=by
  split at hx
  ·cases hx;exact .refl _
  ·cases hx
section
variable{α:Type}{t:Ty α}{P:Program}{G:Nat->List Value}{f:FuncId}
theorem fb5{β:Type}{c:Cod β}{k k':β->DT (a7×List a8)}(h:d6 P G f (G9 c k))(hk:∀a r,(k' a).run=some r->(k a).run=some r):d6 P G f (G9 c k'):=h.le λargs blks r hr=>by
 unfold G9 at hr ⊢
 split at hr
 ·obtain⟨a,h1,hr⟩:=u9 hr;obtain⟨g,hr⟩:=DT.run_guard_some hr;simp only[h1,onO,g];exact hk a r hr
 ·cases hr
theorem ld9{k:List α->DT (a7×List a8)}(hA:d6 P G f (G9 (vc9 t) λz=>k (z.1::z.2)))(hN:d6 P G f (G9 Wd0 λ_=>k []))(hE:d6 P G f (G9 cE0 λ_=>k [])):d6 P G f (G9 (ga2 t) k):=by
 intro args blks r out he W ρ F w args' hH hlen hargs hG;unfold G9 at he
 split at he
 ·rename_i x;obtain⟨a,h1,he⟩:=u9 he;obtain⟨g1,hk⟩:=DT.run_guard_some he;have nilCase:∀v',args'[0]?=some v'->v'=.slice none 0 0->a=[]->Ca4 P f/\Calls P f args'.toArray w λe w'=>∃r',e=.returned r'/\w8 W ρ [] F w r out r' w':=λv' hv e ha=>by
   subst ha;refine hN [.v (.slice none 0 0)] [] r out ?_ W ρ F w args' hH hlen (λi x' y' hx hy=>?_) hG
   ·exact hk
   ·match i with
    |0=>cases hx;rw[hv] at hy;cases hy;rw[e];exact .val (.cell (.v _))
    |i+1=>cases hx
  have emptyCase:∀v' ad c,args'[0]?=some v'->v'=.slice (some ad) 0 c->a=[]->Ca4 P f/\Calls P f args'.toArray w λe w'=>∃r',e=.returned r'/\w8 W ρ [] F w r out r' w':=λv' ad c hv e ha=>by
   subst ha;refine hE [.v (.slice (some ad) 0 c)] [] r out ?_ W ρ F w args' hH hlen (λi x' y' hx hy=>?_) hG
   ·exact hk
   ·match i with
    |0=>cases hx;rw[hv] at hy;cases hy;rw[e];exact .val (.cell (.v _))
    |i+1=>cases hx
  obtain⟨v',hv⟩:∃v',args'[0]?=some v':=by
   cases args' with
   |nil=>simp at hlen
   |cons v' r'=>exact⟨v',rfl⟩
  cases x with
  |tree e n get =>
   have hb:Nat.beq e t.es=true/\a=lsL t n get:=by
    have h1:(Bool.rec none (some (lsL t n get)) (Nat.beq e t.es):Option (List α))=some a:=h1;cases hb:Nat.beq e t.es with
    |false=>rw[hb] at h1;cases h1
    |true =>
     simp_all
   cases n with
   |zero =>
    have ha:a=[]:=hb.2;have hm:=Q9 (hargs 0 _ v' rfl hv);cases hm with
    |tree _ _ _ ad cap cs hs hcap hes hF hw hr=>exact emptyCase _ ad cap hv rfl ha
    |nil=>exact nilCase _ hv rfl ha
   |succ m =>
    have ha:a=hC t get::tC t m get:=hb.2.trans (vc8 t m get);subst ha;refine hA [.tree e (m+1) get] [] r out ?_ W ρ F w args' hH hlen hargs hG;have hc:(vc9 t).dec (.tree e (m+1) get)=some (hC t get,tC t m get):=by
     show (Bool.rec none (some (hC t get,tC t m get)) (Nat.beq e t.es):Option (α×List α))=_;rw[hb.1]
    have hg:(vc9 t).grd (.tree e (m+1) get)=true:=g1;simp only[G9,hc,onO,hg];exact hk
  |v q =>
   have hq:=F9 (hargs 0 _ v' rfl hv);unfold ga2 at h1
   grind
  |_=>cases h1
 ·cases he
end
end Go.Ev.L
namespace Go.Ev.Ce
open Go Go.Ev Go.Ev.L Go.Proofs
set_option maxRecDepth 100000
def Vb4:List (Nat×Sum):=[(104,Aa2),(110,V5),(111,U0)]
theorem Jb3:w7 prog G Vb4:=⟨ia6,aa7,X8,trivial⟩
def Ma3(x:Unit):ROq:=let t1:=(fa5 []);(sl (fa6 []) (sl (t1 != 0) (some (.tup [nlq,i t1],[])) none) none)
def jb6(x:Unit):PLq×Int:=N4 (two (r1L tP) r1I) (Ma3 x)
def jb7(x:Unit):Bool:=okO (two (r1L tP) r1I) (Ma3 x)
def jb8:Sum:=G9 Wd0 (λx=>.guard (jb7 x) (.ret ((two (r1L tP) r1I).enc (jb6 x),[])))
theorem bb8:d6 prog G 70 jb8:=lc5 (bd b70 Jb3) (two (r1L tP) r1I) (o:=Ma3) λx=>Tb1 .p [] .nil
def Bb2:List (Nat×Sum):=[(70,jb8),(110,V5)]
theorem tb9:w7 prog G Bb2:=⟨bb8,aa7,trivial⟩
def ya0(x:Unit):ROq:=let t1:=(jb6 ());(sl (jb7 ()) (sl (t1.2 != 0) (some (.tup [nlq,i t1.2],[])) none) none)
def Jb4(x:Unit):List V3×Int:=N4 (two (r1L tV) r1I) (ya0 x)
def Jb5(x:Unit):Bool:=okO (two (r1L tV) r1I) (ya0 x)
def Jb6:Sum:=G9 Wd0 (λx=>.guard (Jb5 x) (.ret ((two (r1L tV) r1I).enc (Jb4 x),[])))
theorem Bb3:d6 prog G 69 Jb6:=Na9 (bd b69 tb9) (two (r1L tV) r1I) (o:=ya0)
def Vb5:List (Nat×Sum):=[(111,U0)]
theorem Jb7:w7 prog G Vb5:=⟨X8,trivial⟩
def Ma4(x:Addr×Nat):ROq:=none
def jb9(x:Addr×Nat):PLq×Int:=N4 (two (r1L tP) r1I) (Ma4 x)
def kb0(x:Addr×Nat):Bool:=okO (two (r1L tP) r1I) (Ma4 x)
def kb1:Sum:=G9 cE0 (λx=>.guard (kb0 x) (.ret ((two (r1L tP) r1I).enc (jb9 x),[])))
theorem bb9:d6 prog G 70 kb1:=lc5 (bd b70 Jb7) (two (r1L tP) r1I) (o:=Ma4) λx=>Tb1 .p [] .nil
def Bb4:List (Nat×Sum):=[(70,kb1),(110,V5)]
theorem ub0:w7 prog G Bb4:=⟨bb9,aa7,trivial⟩
def ya1(x:Addr×Nat):ROq:=let t1:=(jb9 x);(sl (kb0 x) (sl (t1.2 != 0) (some (.tup [nlq,i t1.2],[])) none) none)
def Jb8(x:Addr×Nat):List V3×Int:=N4 (two (r1L tV) r1I) (ya1 x)
def Jb9(x:Addr×Nat):Bool:=okO (two (r1L tV) r1I) (ya1 x)
def Kb0:Sum:=G9 cE0 (λx=>.guard (Jb9 x) (.ret ((two (r1L tV) r1I).enc (Jb8 x),[])))
theorem Bb5:d6 prog G 69 Kb0:=Na9 (bd b69 ub0) (two (r1L tV) r1I) (o:=ya1)
def Vb6:List (Nat×Sum):=[(104,Aa2),(111,U0)]
theorem Kb1:w7 prog G Vb6:=⟨ia6,X8,trivial⟩
def ja2(x:List V3):ROq:=let t1:=(fa5 (rt tV x));(sl (okE tV x) (sl (fa6 (rt tV x)) (sl (t1 != 0) (some (.tup [nlq,i t1],[])) none) none) none)
def ta1(x:List V3):PLq×Int:=N4 (two (r1L tP) r1I) (ja2 x)
def ta2(x:List V3):Bool:=okO (two (r1L tP) r1I) (ja2 x)
def kb2:Sum:=G9 (ga2 tV) (λx=>.guard (ta2 x) (.ret ((two (r1L tP) r1I).enc (ta1 x),[])))
theorem cb0:d6 prog G 70 kb2:=lc5 (bd b70 Kb1) (two (r1L tP) r1I) (o:=ja2) λx=>Tb1 .p [] .nil
def Bb6:List (Nat×Sum):=[(70,kb2)]
theorem ub1:w7 prog G Bb6:=⟨cb0,trivial⟩
def Y4(x:List V3):ROq:=let t1:=(ta1 (rt tV x));(sl (okE tV x) (sl (ta2 (rt tV x)) (sl (t1.2 != 0) (some (.tup [nlq,i t1.2],[])) none) none) none)
def ya2(x:List V3):List V3×Int:=N4 (two (r1L tV) r1I) (Y4 x)
def ya3(x:List V3):Bool:=okO (two (r1L tV) r1I) (Y4 x)
def Kb2:Sum:=G9 (ga2 tV) (λx=>.guard (ya3 x) (.ret ((two (r1L tV) r1I).enc (ya2 x),[])))
theorem Bb7:d6 prog G 69 Kb2:=Na9 (bd b69 ub1) (two (r1L tV) r1I) (o:=Y4)
structure Cc5 where
 (f0 ve9 we0:Int)
structure Cc6 where
 Ga3:Int
structure vd3 where
 (Qa3 Qa4 Qa5:Int)
 ue6:PLq
 (ve0 ve1 ve2:Int)
structure cd3 where
 (ve0 ve1 ve2:Int)
 Fe5:PLq
 B6:Int
structure cd4 where
 ph:Nat
 Id7:Int
 ns8:Nat
 eh0:List (List a7)
structure vd4 where
 alt:Nat
 bs1:Bool
 ns0:Nat
 eh0:List (List a7)
def ua3(x:V3):ROq:=(sl (decide (x.x>=0)) (sl (decide (x.x<=12)) (sl (decide (x.y>=0)) (sl (decide (x.y<=12)) (sl (decide (x.z>=0)) (some (b (decide (x.z<=12)),[])) (some (b false,[]))) (some (b false,[]))) (some (b false,[]))) (some (b false,[]))) (some (b false,[])))
def ua4(x:V3):Bool:=N4 (one r1B) (ua3 x)
def ua5(x:V3):Bool:=okO (one r1B) (ua3 x)
def Fb4:Sum:=G9 (ha1 tV) (λx=>.guard (ua5 x) (.ret ((one r1B).enc (ua4 x),[])))
theorem nc6:d6 prog G 14 Fb4:=Na9 (bd b14 Oa0) (one r1B) (o:=ua3)
structure hb6 where
structure cb1 where
structure cb2 where
structure hb7 where
 alt:Nat
structure Bb8 where
structure ub2 where
structure ub3 where
structure Bb9 where
 alt:Nat
structure Zb3 where
structure Zb4 where
 alt:Nat
def rm(p:Pln)(x:Pt):Int:=W (p.b*x.pw-(p.n.x*x.px+p.n.y*x.py+p.n.z*x.pz))
structure Bd(p:Pln):Prop where
 x1:-4608<=p.n.x
 x2:p.n.x<=4608
 y1:-4608<=p.n.y
 y2:p.n.y<=4608
 z1:-4608<=p.n.z
 z2:p.n.z<=4608
 b1:-2097152<=p.b
 b2:p.b<=2097152
def mv(p q r:Pln):V3 :=
 ⟨(d7 q.n r.n).x*p.b+(d7 r.n p.n).x*q.b+(d7 p.n q.n).x*r.b,
  (d7 q.n r.n).y*p.b+(d7 r.n p.n).y*q.b+(d7 p.n q.n).y*r.b,
  (d7 q.n r.n).z*p.b+(d7 r.n p.n).z*q.b+(d7 p.n q.n).z*r.b⟩
def gc(v:V3)(w:Int):Int:=(Nat.gcd (Nat.gcd v.x.natAbs v.y.natAbs) (Nat.gcd v.z.natAbs w.natAbs):Nat)
def mpt(p q r:Pln):Pt×Bool :=
 if mw p q r=0 then (⟨0,0,0,0⟩,false)
 else if mw p q r<0 then (⟨Int.tdiv (-(mv p q r).x) (gc (mv p q r) (mw p q r)),Int.tdiv (-(mv p q r).y) (gc (mv p q r) (mw p q r)),Int.tdiv (-(mv p q r).z) (gc (mv p q r) (mw p q r)),Int.tdiv (-(mw p q r)) (gc (mv p q r) (mw p q r))⟩,true)
 else (⟨Int.tdiv (mv p q r).x (gc (mv p q r) (mw p q r)),Int.tdiv (mv p q r).y (gc (mv p q r) (mw p q r)),Int.tdiv (mv p q r).z (gc (mv p q r) (mw p q r)),Int.tdiv (mw p q r) (gc (mv p q r) (mw p q r))⟩,true)
def Sm(n:Int)(x:Int):Prop:=-n<=x/\x<=n
theorem md0{a b:V3}(ha:Sm 4608 a.x/\Sm 4608 a.y/\Sm 4608 a.z)(hb:Sm 4608 b.x/\Sm 4608 b.y/\Sm 4608 b.z):Sm 42467328 (d7 a b).x/\Sm 42467328 (d7 a b).y/\Sm 42467328 (d7 a b).z:=by
 obtain⟨⟨a1,a2⟩,⟨a3,a4⟩,a5,a6⟩:=ha;obtain⟨⟨b1,b2⟩,⟨b3,b4⟩,b5,b6⟩:=hb;have h1:=mb a3 a4 b5 b6;have h2:=mb a5 a6 b3 b4;have h3:=mb a5 a6 b1 b2;have h4:=mb a1 a2 b5 b6;have h5:=mb a1 a2 b3 b4;have h6:=mb a3 a4 b1 b2;unfold Sm d7
 simp only
 omega
theorem Bd.n{p:Pln}(h:Bd p):Sm 4608 p.n.x/\Sm 4608 p.n.y/\Sm 4608 p.n.z:=⟨⟨h.x1,h.x2⟩,⟨h.y1,h.y2⟩,h.z1,h.z2⟩
theorem Bd5(a b:V3):L8 a b=⟨W (d7 a b).x,W (d7 a b).y,W (d7 a b).z⟩:=by
 unfold L8 d7;simp only[ld5,ld6]
theorem Bd6(a b:V3):Ha9 a b=⟨W (d7 a b).x,W (d7 a b).y,W (d7 a b).z⟩:=by
 unfold Ha9 d7;simp only[ld5,ld6]
theorem Cb0{x:Int}(h:Sm 1000000000000000000 x):W x=x:=fa7 (by have:=h.1;omega) (by have:=h.2;omega)
theorem Sm.mono{n m x:Int}(h:Sm n x)(hn:n<=m):Sm m x:=⟨by have:=h.1;omega,by have:=h.2;omega⟩
theorem Aa8{n x g:Int}(h:Sm n x)(hg:0<g):Sm n (Int.tdiv x g):=by
 have h1:(Int.tdiv x g).natAbs<=x.natAbs:=by rw[Int.natAbs_tdiv];exact Nat.div_le_self _ _
 have:=h.1;have:=h.2
 constructor<;>omega
end Go.Ev.Ce
