/- Own work. -/
import Derived.Test.YtdigbcehbdiibaaGreatDoorChecked
import Derived.Test.YtdigbcehbdiibaaGreatDoorEvOgCePf
import Derived.KernelRfl
set_option linter.all false
noncomputable section
def Qha:=@List.drop_eq_getElem_cons
def Qhb:=@List.length_mergeSort
def Qhc:=@Bool.false_eq_true
namespace Go.Ev.Ce
open Go Go.Ev Go.Proofs
set_option maxRecDepth 1000000
theorem mx:(Tryz.prog).follows .mixedOrders=true:=Checked.mixed Tryz.checked
abbrev Bdq(n:Nat)(pf:PFn):Prop:=Oe5 Tryz.prog n λE=>Jc3 E pf
theorem bdq{f:FuncId}{fn:Func}(hf:(Tryz.prog).funcs[f]?=some fn)(hn:decide (fn.name ≠ "runtime.NumGoroutine")=true:=by kernel_rfl)(hc:Option.isSome (uc5 Tryz.prog fn)=true:=by kernel_rfl):Bdq f (got (uc5 Tryz.prog fn)):=Sf9 mx hf hn (xe8 hc)
theorem b3:Bdq 3 pf3:=bdq Tryz.func3
theorem b4:Bdq 4 pf4:=bdq Tryz.func4
theorem b5:Bdq 5 pf5:=bdq Tryz.func5
theorem b6:Bdq 6 pf6:=bdq Tryz.func6
theorem b9:Bdq 9 pf9:=bdq Tryz.func9
theorem b13:Bdq 13 Lf5:=bdq Tryz.func13
theorem b15:Bdq 15 Tf0:=bdq Tryz.func15
theorem b16:Bdq 16 Tf1:=bdq Tryz.func16
theorem b18:Bdq 18 Lf6:=bdq Tryz.func18
theorem b20:Bdq 20 Cf6:=bdq Tryz.func20
theorem b21:Bdq 21 Tf2:=bdq Tryz.func21
theorem b22:Bdq 22 nf6:=bdq Tryz.func22
theorem b23:Bdq 23 Lf7:=bdq Tryz.func23
theorem b24:Oe5 Tryz.prog 24 λE=>cc9 E nf7:=wf4 (h:=h24) mx Tryz.func24 (by kernel_rfl) Tryz.func90 (by kernel_rfl) (xe8 (by kernel_rfl))
theorem b25:Bdq 25 Tf3:=bdq Tryz.func25
theorem b29:Bdq 29 Tf4:=bdq Tryz.func29
theorem b30:Bdq 30 Tf5:=bdq Tryz.func30
theorem b31:Bdq 31 Tf6:=bdq Tryz.func31
theorem b34:Bdq 34 Tf7:=bdq Tryz.func34
theorem b35:Bdq 35 Tf8:=bdq Tryz.func35
theorem b36:Bdq 36 Lf8:=bdq Tryz.func36
theorem b37:Bdq 37 Tf9:=bdq Tryz.func37
theorem b38:Bdq 38 Lf9:=bdq Tryz.func38
theorem b39:Bdq 39 Mf0:=bdq Tryz.func39
theorem b43:Bdq 43 Mf1:=bdq Tryz.func43
theorem b45:Bdq 45 Cf7:=bdq Tryz.func45
theorem b46:Bdq 46 Uf0:=bdq Tryz.func46
theorem b47:Bdq 47 Uf1:=bdq Tryz.func47
theorem b48:Bdq 48 Uf2:=bdq Tryz.func48
theorem b49:Bdq 49 nf8:=bdq Tryz.func49
theorem b50:Bdq 50 Uf3:=bdq Tryz.func50
theorem b51:Bdq 51 Uf4:=bdq Tryz.func51
theorem b52:Bdq 52 Uf5:=bdq Tryz.func52
theorem b53:Bdq 53 Uf6:=bdq Tryz.func53
theorem b54:Bdq 54 Uf7:=bdq Tryz.func54
theorem b55:Bdq 55 Mf2:=bdq Tryz.func55
theorem b56:Bdq 56 Uf8:=bdq Tryz.func56
theorem b57:Bdq 57 Uf9:=bdq Tryz.func57
theorem b58:Bdq 58 Mf3:=bdq Tryz.func58
theorem b59:Bdq 59 Vf0:=bdq Tryz.func59
theorem b61:Bdq 61 Vf1:=bdq Tryz.func61
theorem b62:Bdq 62 Vf2:=bdq Tryz.func62
theorem b63:Bdq 63 Vf3:=bdq Tryz.func63
theorem b64:Bdq 64 Vf4:=bdq Tryz.func64
theorem b65:Bdq 65 Vf5:=bdq Tryz.func65
theorem b67:Bdq 67 Vf6:=bdq Tryz.func67
theorem b68:Bdq 68 Vf7:=bdq Tryz.func68
theorem b69:Bdq 69 Vf8:=bdq Tryz.func69
theorem b70:Bdq 70 Vf9:=bdq Tryz.func70
theorem b71:Bdq 71 Wf0:=bdq Tryz.func71
theorem b72:Bdq 72 Wf1:=bdq Tryz.func72
theorem b73:Bdq 73 Wf2:=bdq Tryz.func73
theorem b74:Bdq 74 Wf3:=bdq Tryz.func74
theorem b75:Bdq 75 Wf4:=bdq Tryz.func75
theorem b76:Bdq 76 Wf5:=bdq Tryz.func76
theorem b77:Bdq 77 Wf6:=bdq Tryz.func77
theorem b78:Bdq 78 Wf7:=bdq Tryz.func78
theorem b79:Bdq 79 Ze6:=bdq Tryz.func79
theorem b81:Bdq 81 Mf4:=bdq Tryz.func81
theorem b82:Bdq 82 Cf8:=bdq Tryz.func82
theorem b83:Bdq 83 Mf5:=bdq Tryz.func83
theorem b84:Bdq 84 Mf6:=bdq Tryz.func84
theorem b85:Bdq 85 Wf8:=bdq Tryz.func85
theorem b86:Oe5 Tryz.prog 86 λE=>cc9 E nf9:=wf4 (h:=h86) mx Tryz.func86 (by kernel_rfl) Tryz.func90 (by kernel_rfl) (xe8 (by kernel_rfl))
theorem b88:Bdq 88 Wf9:=bdq Tryz.func88
theorem b89:Bdq 89 Cf9:=bdq Tryz.func89
theorem b91:Bdq 91 Xf0:=bdq Tryz.func91
theorem b92:Bdq 92 Xf1:=bdq Tryz.func92
theorem b93:Bdq 93 Xf2:=bdq Tryz.func93
theorem b96:Bdq 96 Xf3:=bdq Tryz.func96
theorem b97:Bdq 97 Mf7:=bdq Tryz.func97
theorem b98:Bdq 98 Df0:=bdq Tryz.func98
theorem b99:Bdq 99 Xf4:=bdq Tryz.func99
theorem Xf5:Bdq 100 Mf8:=bdq Tryz.func100
theorem Of6:Bdq 108 Ze7:=bdq Tryz.func108
theorem xe9:Bdq 109 gd7:=bdq Tryz.func109
theorem Xf6:Bdq 110 wf5:=bdq Tryz.func110
theorem Xf7:Bdq 111 Mf9:=bdq Tryz.func111
theorem Xf8:Bdq 112 Nf0:=bdq Tryz.func112
theorem Xf9:Bdq 113 Fe1:=bdq Tryz.func113
theorem Yf0:Bdq 114 Nf1:=bdq Tryz.func114
theorem Yf1:Bdq 115 Nf2:=bdq Tryz.func115
theorem Yf2:Bdq 116 le3:=bdq Tryz.func116
theorem Yf3:Bdq 117 wf6:=bdq Tryz.func117
theorem Yf4:Bdq 118 Nf3:=bdq Tryz.func118
theorem Yf5:Bdq 120 wf7:=bdq Tryz.func120
theorem Yf6:Bdq 121 Nf4:=bdq Tryz.func121
theorem Yf7:Bdq 122 Nf5:=bdq Tryz.func122
theorem Yf8:Bdq 123 Nf6:=bdq Tryz.func123
theorem Yf9:Bdq 134 Ze8:=bdq Tryz.func134
theorem Zf0:Bdq 139 wf8:=bdq Tryz.func139
theorem Zf1:Bdq 140 Nf7:=bdq Tryz.func140
theorem Zf2:Bdq 141 Nf8:=bdq Tryz.func141
theorem Zf3:Bdq 142 Nf9:=bdq Tryz.func142
theorem Zf4:Bdq 143 Of0:=bdq Tryz.func143
theorem Zf5:Bdq 144 wf9:=bdq Tryz.func144
theorem Zf6:Bdq 145 xf0:=bdq Tryz.func145
theorem Zf7:Bdq 146 Of1:=bdq Tryz.func146
theorem Zf8:Bdq 147 Of2:=bdq Tryz.func147
theorem Zf9:Bdq 156 Of3:=bdq Tryz.func156
theorem ag0:Bdq 162 Of4:=bdq Tryz.func162
theorem ag1:Bdq 166 Of5:=bdq Tryz.func166
theorem ag2:Bdq 167 xf1:=bdq Tryz.func167
end Go.Ev.Ce
namespace Go.Ev.L
open Go Go.Ev
def gc6:RT->PC->PS2
 |.s a b,.seq x y=>.seq (gc6 a x) (gc6 b y)
 |.c a b,.cond g x y=>.cond g (gc6 a x) (gc6 b y)
 |.b a,.block id x=>.block id (gc6 a x)
 |.i a,.inner f x n c=>.inner f x n (gc6 a c)
 |.u S,_=>.sum S
 |_,c=>.pc c
theorem Zd2{E:Env}{k:Nat}(rt:RT)(c:PC):Ra3 (λx=>∀s,V7 (x.1 s) (E8 E k x.2 s)) (Vb2 rt c)->na8 E k (gc6 rt c) c:=by
 induction rt generalizing c with
 |p=>intro h;cases c<;>exact .pc _
 |s a b iha ihb =>
  intro h;cases c with
  |seq x y=>exact .seq (iha x (Ra3.app h).1) (ihb y (Ra3.app h).2)
  |_=>exact .pc _
 |c a b iha ihb =>
  intro h;cases c with
  |cond g x y=>exact .cond g (iha x (Ra3.app h).1) (ihb y (Ra3.app h).2)
  |_=>exact .pc _
 |b a iha =>
  intro h;cases c with
  |block id x=>exact .block id (iha x h)
  |_=>exact .pc _
 |l a iha=>intro h;cases c<;>exact .pc _
 |i a iha =>
  intro h;cases c with
  |inner f x n c=>exact .inner f x n (iha c h)
  |_=>exact .pc _
 |u S =>
  intro h
  have:Vb2 (.u S) c=[(S,c)]:=by cases c<;>rfl
  rw[this] at h;cases h with
  |cons h t =>
   have e:gc6 (.u S) c=.sum S:=by cases c<;>rfl
   rw[e];exact .sum h
section
variable{π σ:Type}{E:Env}{k:Nat}{keep:List Nat}{alts:List (Al2 π σ)}{enc:π->σ->St}{step:π->σ->Stp σ}{xs:Xs π σ}{body:PS2}{c:PC}
theorem nc5.belowM(hb:na8 E k body c)(hN:E.N=rounds+1)(w:nc5 le2 k keep (Xc9 E k body) alts step xs enc)(s:St):V7 (Qd3 le2 k keep alts step xs s) (E8 E k (.loopM keep c) s):=λr hr=>by
 obtain⟨t,h1,h2⟩:=w.go hr;rw[xe7,hN];exact cc4 hb.le _ _ _ (vc8 h1 h2)
theorem nc5.belowML(hb:na8 E k body c)(hN:E.N=rounds+1)(w:nc5 nc1 k keep (Xc9 E k body) alts step xs enc)(s:St):V7 (Qd3 nc1 k keep alts step xs s) (E8 E k (.loop keep c) s):=λr hr=>by
 obtain⟨t,h1,h2⟩:=w.go hr;rw[Qd2,hN];exact cc4 hb.le _ _ _ (vc8 h1 h2)
end
end Go.Ev.L
namespace Go.Ev.Ab
open Go Go.Ev
@[reducible] noncomputable def o(d:Nat)(x:PO):PI:=⟨some d,none,[],x⟩
@[reducible] noncomputable def s(x:PO):PI:=⟨none,none,[],x⟩
@[reducible] noncomputable def ci(n:Int):Arg:=.c (.v (.int .i64 n))
@[reducible] noncomputable def cb(b:Bool):Arg:=.c (.v (.bool b))
@[reducible] noncomputable def vi(n:Int):a7:=.v (.int .i64 n)
@[reducible] noncomputable def rep{α:Type}(n:Nat)(x:α):List α:=List.replicate n x
@[reducible] noncomputable def ki(n:Nat):List CK:=List.replicate n (.int .i64)
@[reducible] noncomputable def mv(d n:Nat):PI:=o d (.mv (.t n))
@[reducible] noncomputable def mc(d:Nat)(n:Int):PI:=o d (.mv (ci n))
@[reducible] noncomputable def mb(d:Nat)(x:Bool):PI:=o d (.mv (cb x))
@[reducible] noncomputable def fd(d k n:Nat):PI:=o d (.fld k (.t n))
@[reducible] noncomputable def ex(d x k:Nat):PI:=o d (.ext (.t x) k)
@[reducible] noncomputable def so(l:List PI)(x:PC):PC:=.seq (.ops l) x
@[reducible] noncomputable def sq(x y:PC):PC:=.seq x y
@[reducible] noncomputable def ts(l:List Nat):List Arg:=l.map .t
@[reducible] noncomputable def cl(f:Nat)(l:List Nat):PO:=.call f (ts l)
@[reducible] noncomputable def sT(k a b:Nat):PI:=s (.store k (.t a) (.t b))
@[reducible] noncomputable def pa(d c x:Nat):PI:=o d (.pick (.t c) (.t x) (cb false))
@[reducible] noncomputable def po(d c x:Nat):PI:=o d (.pick (.t c) (cb true) (.t x))
@[reducible] noncomputable def al(d k:Nat)(n:Int):PI:=o d (.alloc (rep k (vi n)))
@[reducible] noncomputable def ap(d et es n x y:Nat):PI:=o d (.append et es n (.t x) (.t y))
end Go.Ev.Ab
namespace Go.Ev.L
open Go Go.Ev
def Cps{π σ:Type}(u:∀{α:Type},(σ->α)->(Nat->α)->α->π->σ->α):Prop :=
 ∀{α β:Type} (F:α->β) (k:σ->α) (e:Nat->α) (z:α) (p:π) (s:σ),F (u k e z p s)=u (λx=>F (k x)) (λt=>F (e t)) (F z) p s
@[reducible] noncomputable def foL{π σ:Type}(en:π->σ->St)(xs:Xs π σ)(p:π)(s:σ):Stp σ->Option (d8×St):=nc2 (λs'=>some (.normal,en p s')) (λt=>xOf xs p s t 1) none
structure Lo(π σ:Type) where
 E:Env
 k:Nat
 F:PFn
 at':List Nat
 kp:List Nat
 rt:RT
 al:List (Al2 π σ)
 st:π->σ->Stp σ
 xs:Xs π σ
 en:π->σ->St
namespace Lo
variable{π σ:Type}(L:Lo π σ)
def lc:PC:=Sf7 L.at' L.F.body
def ls:St->DT (d8×St):=Qd3 nc1 L.k L.kp L.al L.st L.xs
def lsM:St->DT (d8×St):=Qd3 le2 L.k L.kp L.al L.st L.xs
def pr:(St->DT (d8×St))×PC:=(L.ls,.loop L.kp L.lc)
def prM:(St->DT (d8×St))×PC:=(L.lsM,.loopM L.kp L.lc)
def Ok:Prop:=∀s,aa0 L.k L.F.res (L.pr.1 s) (E8 L.E L.k L.pr.2 s)
def OkE:Prop:=∀s,V7 (L.pr.1 s) (E8 L.E L.k L.pr.2 s)
def OkM:Prop:=∀s,V7 (L.prM.1 s) (E8 L.E L.k L.prM.2 s)
def Rd(hd:St->DT St)(bd:St->DT (d8×St))(p:π)(s:σ)(a:St)(b:Stp σ):Prop:=(Kb6 hd bd a).run=foL L.en L.xs p s b
def H0:Prop:=∀p s,L.Rd (nc1 L.k L.kp) (Ce7 L.E L.k L.F.res (yd7 L.rt L.lc)) p s (L.en p s) (L.st p s)
def H1:Prop:=∀p s,L.Rd (nc1 L.k L.kp) (Xc9 L.E L.k (gc6 L.rt L.lc)) p s (L.en p s) (L.st p s)
def H2:Prop:=∀p s,L.Rd (le2 L.k L.kp) (Xc9 L.E L.k (gc6 L.rt L.lc)) p s (L.en p s) (L.st p s)
def HA:Prop:=Ra3 (λx=>∀a H,(⟨Le9 x.sh a,Me0 x.bl H⟩:St)=L.en (x.rd a H).1 (x.rd a H).2) L.al
variable{L}
theorem Rd.of{hd:St->DT St}{bd:St->DT (d8×St)}{p:π}{s:σ}{a:St}(u:∀{α:Type},(σ->α)->(Nat->α)->α->π->σ->α)
  (q:Cps @u) (H:(Kb6 hd bd a).run=u (λx=>foL L.en L.xs p s (.next x)) (λt=>foL L.en L.xs p s (.exit t)) (foL L.en L.xs p s .fail) p s):L.Rd hd bd p s a (u .next .exit .fail p s) :=
 H.trans (q (foL L.en L.xs p s) Stp.next Stp.exit Stp.fail p s).symm
theorem Rd.sel{hd:St->DT St}{bd:St->DT (d8×St)}{p:π}{s:σ}{a1 a0:St}{b1 b0:Stp σ}(c:Bool)(h1:L.Rd hd bd p s a1 b1)(h0:L.Rd hd bd p s a0 b0):L.Rd hd bd p s (sel c a1 a0) (sel c b1 b0):=by
 cases c with
 |true=>exact h1
 |false=>exact h0
theorem ok(l:List ((St->DT (d8×St))×PC))(hs:Vb2 L.rt L.lc=l)(hl:Ra3 (λx=>∀s,aa0 L.k L.F.res (x.1 s) (E8 L.E L.k x.2 s)) l)(hN:L.E.N=rounds+1)(ha:L.HA)(h:L.H0):L.Ok :=
 nc5.belowC (De8 _ _ (by rw[hs];exact hl)) hN ⟨ha,h⟩
theorem okE(l:List ((St->DT (d8×St))×PC))(hs:Vb2 L.rt L.lc=l)(hl:Ra3 (λx=>∀s,V7 (x.1 s) (E8 L.E L.k x.2 s)) l)(hN:L.E.N=rounds+1)(ha:L.HA)(h:L.H1):L.OkE :=
 nc5.belowML (Zd2 _ _ (by rw[hs];exact hl)) hN ⟨ha,h⟩
theorem okM(l:List ((St->DT (d8×St))×PC))(hs:Vb2 L.rt L.lc=l)(hl:Ra3 (λx=>∀s,V7 (x.1 s) (E8 L.E L.k x.2 s)) l)(hN:L.E.N=rounds+1)(ha:L.HA)(h:L.H2):L.OkM :=
 nc5.belowM (Zd2 _ _ (by rw[hs];exact hl)) hN ⟨ha,h⟩
end Lo
theorem ag3{E:Env}{F:PFn}{args:List a7}{blks:List b7}{o:Option (a7×List b7)}(rt:RT)(l:List ((St->DT (d8×St))×PC))(hs:Vb2 rt F.body=l)
  (hl:Ra3 (λx=>∀s,aa0 (len blks) F.res (x.1 s) (E8 E (len blks) x.2 s)) l) (h:(Af3 E F (yd7 rt F.body) args blks).run=o) (r:a7×List b7) (hr:o=some r):(Jc3 E F args blks).run=some r :=
 ve3 (De8 rt _ (by rw[hs];exact hl)) r (h.trans hr)
theorem Of7{E:Env}{F:PFn}{args:List a7}{blks:List b7}{o:Option (a7×List b7)}(rt:RT)(l:List ((St->DT (d8×St))×PC))(hs:Vb2 rt F.body=l)
  (hl:Ra3 (λx=>∀s,V7 (x.1 s) (E8 E (len blks) x.2 s)) l) (h:(Ze5 E F (gc6 rt F.body) args blks).run=o) (r:a7×List b7) (hr:o=some r):(cc9 E F args blks).run=some r :=
 le1 (Zd2 rt _ (by rw[hs];exact hl)) r (h.trans hr)
theorem ka3{A o:Option (a7×List b7)}(h:A=o)(r:a7×List b7)(hr:o=some r):A=some r:=h.trans hr
def Cpa{π ρ:Type}(u:∀{α:Type},(ρ->α)->π->α):Prop:=∀{α β:Type} (F:α->β) (k:ρ->α) (p:π),F (u k p)=u (λx=>F (k x)) p
theorem Lo.Rd.ofq{π σ:Type}{L:Lo π σ}{hd:St->DT St}{bd:St->DT (d8×St)}{p:π}{s:σ}{a:St}(u:∀{α:Type},(σ->α)->(Nat->α)->α->π->σ->α)
  (q:Cps @u:=by intro _ _ F _ _ _ _ _;(repeat' apply Ue8 (f:=F))<;>rfl) (H:(Kb6 hd bd a).run=u (λx=>foL L.en L.xs p s (.next x)) (λt=>foL L.en L.xs p s (.exit t)) (foL L.en L.xs p s .fail) p s:=by kernel_rfl):L.Rd hd bd p s a (u .next .exit .fail p s):=Lo.Rd.of @u q H
theorem Lo.okq {π σ : Type} {L : Lo π σ} (l : List ((St → DT (d8 × St)) × PC)) (hl : Ra3 (fun x => ∀ s, aa0 L.k L.F.res (x.1 s) (E8 L.E L.k x.2 s)) l) (h : L.H0) (hs : Vb2 L.rt L.lc = l := by kernel_rfl) (hN : L.E.N = rounds + 1 := by rfl)
  (ha:L.HA:=by repeat' (first | exact .nil | refine .cons (λa H=>by kernel_rfl) ?_)):L.Ok:=Lo.ok l hs hl hN ha h
theorem Lo.okMq {π σ : Type} {L : Lo π σ} (l : List ((St → DT (d8 × St)) × PC)) (hl : Ra3 (fun x => ∀ s, V7 (x.1 s) (E8 L.E L.k x.2 s)) l) (h : L.H2) (hs : Vb2 L.rt L.lc = l := by kernel_rfl) (hN : L.E.N = rounds + 1 := by rfl)
  (ha:L.HA:=by repeat' (first | exact .nil | refine .cons (λa H=>by kernel_rfl) ?_)):L.OkM:=Lo.okM l hs hl hN ha h
theorem O4{E:Env}{F:PFn}{args:List a7}{blks:List b7}{o:Option (a7×List b7)}(rt:RT)(l:List ((St->DT (d8×St))×PC))
  (hl:Ra3 (λx=>∀s,aa0 (len blks) F.res (x.1 s) (E8 E (len blks) x.2 s)) l) (h:(Af3 E F (yd7 rt F.body) args blks).run=o:=by kernel_rfl) (hs:Vb2 rt F.body=l:=by kernel_rfl) (r:a7×List b7) (hr:o=some r):(Jc3 E F args blks).run=some r:=ag3 rt l hs hl h r hr
theorem Ad7{E:Env}{F:PFn}{args:List a7}{blks:List b7}{o:Option (a7×List b7)}(rt:RT)(l:List ((St->DT (d8×St))×PC))
  (hl:Ra3 (λx=>∀s,V7 (x.1 s) (E8 E (len blks) x.2 s)) l) (h:(Ze5 E F (gc6 rt F.body) args blks).run=o:=by kernel_rfl) (hs:Vb2 rt F.body=l:=by kernel_rfl) (r:a7×List b7) (hr:o=some r):(cc9 E F args blks).run=some r:=Of7 rt l hs hl h r hr
theorem mEq{π ρ β:Type}(u:∀{α:Type},(ρ->α)->π->α)(FO:ρ->β)(x:π){v:β}(h1:v=u FO x:=by kernel_rfl)(q:Cpa @u:=by intro _ _ F _ _;(repeat' apply Ue8 (f:=F))<;>rfl):v=FO (u (λr=>r) x):=h1.trans (q FO (λr=>r) x).symm
abbrev nlq:a7:=.v (.slice none 0 0)
abbrev bq(et es:Nat)(el:List (List a7)):b7:=⟨et,es,el,true,false,0⟩
abbrev Da1{α:Type}(a n:Nat)(x:α)(y:DT α):DT α:=.ite (Nat.beq a n) (.ret x) y
theorem Ja2{α ρ:Type}{P:Program}{G:Nat->List Value}{f:FuncId}{R0:Sum}{c0:Cod α}(hb:e7 P G f R0)(R:RR ρ){o:α->Option (a7×List b7)}(h:∀a0 r,o a0=some r->(R0 [c0.enc a0] []).run=some r:=by exact λ_=>ka3 (by kernel_rfl)):e7 P G f (G4 c0 λa0=>rdO R (o a0)):=kc5 hb R h
theorem Fe2{α:Type}{P:Program}{G:Nat->List Value}{f:FuncId}{R:Sum}{c0:Cod α}{k:α->DT (a7×List b7)}(hb:e7 P G f R)(h:∀a0 r,(k a0).run=some r->(R [c0.enc a0] []).run=some r:=by exact λ_=>ka3 (by kernel_rfl)):e7 P G f (G4 c0 k):=vc9 hb h
theorem Lb0{α β ρ:Type}{P:Program}{G:Nat->List Value}{f:FuncId}{R0:Sum}{c0:Cod α}{c1:Cod β}(hb:e7 P G f R0)(R:RR ρ){o:α->β->Option (a7×List b7)}(h:∀a0 a1 r,o a0 a1=some r->(R0 [c0.enc a0,c1.enc a1] []).run=some r:=by exact λ_ _=>ka3 (by kernel_rfl)):e7 P G f (fa5 c0 c1 λa0 a1=>rdO R (o a0 a1)):=Wc6 hb R h
theorem Rd8{α β:Type}{P:Program}{G:Nat->List Value}{f:FuncId}{R:Sum}{c0:Cod α}{c1:Cod β}{k:α->β->DT (a7×List b7)}(hb:e7 P G f R)(h:∀a0 a1 r,(k a0 a1).run=some r->(R [c0.enc a0,c1.enc a1] []).run=some r:=by exact λ_ _=>ka3 (by kernel_rfl)):e7 P G f (fa5 c0 c1 k):=Ce4 hb h
theorem Ze9{α β γ ρ:Type}{P:Program}{G:Nat->List Value}{f:FuncId}{R0:Sum}{c0:Cod α}{c1:Cod β}{c2:Cod γ}(hb:e7 P G f R0)(R:RR ρ){o:α->β->γ->Option (a7×List b7)}(h:∀a0 a1 a2 r,o a0 a1 a2=some r->(R0 [c0.enc a0,c1.enc a1,c2.enc a2] []).run=some r:=by exact λ_ _ _=>ka3 (by kernel_rfl)):e7 P G f (yc6 c0 c1 c2 λa0 a1 a2=>rdO R (o a0 a1 a2)):=Sf6 hb R h
def tbN:List (Nat×Sum):=[]
theorem Ra4{P:Program}{G:Nat->List Value}:j8 P G tbN:=trivial
abbrev upq(x:St)(l:List (Nat×a7)):St:=⟨l.foldl (λa q=>a.set q.1 q.2) x.a,x.H⟩
abbrev sIq:S2:=.s (.o (.int .i64))
abbrev sUq:S2:=.s (.o .unk)
abbrev sBq:S2:=.s (.o .bool)
abbrev sPq(n:Nat):S2:=.s (.o (.ptr n 0 0 0))
abbrev sTq(n:Nat):S2:=.s (.o (.tree n))
abbrev sLq{α:Type}(t:Ty α):S2:=.s (.c t.es (nL t))
abbrev kLq(n:Nat):List K:=List.replicate n (.o (.int .i64))
abbrev aIq(a:List a7)(n:Nat):Int:=toI (slT a n)
abbrev aBq(a:List a7)(n:Nat):Bool:=toB (slT a n)
abbrev aNq(a:List a7)(n:Nat):Nat:=toN (slT a n)
abbrev aGq(a:List a7)(n:Nat):Nat->List a7:=toG (slT a n)
abbrev aLq{α:Type}(t:Ty α)(a:List a7)(n:Nat):List α:=rL t (slT a n)
abbrev hIq(H:List b7)(m r n:Nat):Int:=toI (slT (rwT (elT H m) r) n)
abbrev cIq(a:List a7)(m n:Nat):Int:=toI (slT (cellsOf (slT a m)) n)
abbrev hLq{α:Type}(t:Ty α)(H:List b7)(m r n:Nat):List α:=rL t (slT (rwT (elT H m) r) n)
abbrev wLq{α:Type}(t:Ty α)(H:List b7)(m r k n:Nat):List α:=rL t (slT (cellsOf (slT (rwT (elT H m) r) k)) n)
abbrev wIq(H:List b7)(m r k n:Nat):Int:=toI (slT (cellsOf (slT (rwT (elT H m) r) k)) n)
end Go.Ev.L
namespace Go.Ev.Ce
structure V3 where
 x:Int
 y:Int
 z:Int
structure Pln where
 n:V3
 b:Int
structure Pt where
 px:Int
 py:Int
 pz:Int
 pw:Int
def d7(a b:V3):V3:=⟨a.y*b.z-a.z*b.y,a.z*b.x-a.x*b.z,a.x*b.y-a.y*b.x⟩
def dot(a b:V3):Int:=a.x*b.x+a.y*b.y+a.z*b.z
def mw(p q r:Pln):Int:=dot p.n (d7 q.n r.n)
end Go.Ev.Ce
namespace Go.Ev.Ce
open Go Go.Ev Go.Ev.L Go.Proofs
@[reducible] noncomputable def prog:Program:=Tryz.prog
def G:Nat->List Value:=λ_=>[]
def En(l:List (Nat×Sum)):Env:={ P:=prog,G,fns:=λ_=>none,call:=Af0 l,own:=λf j=>Bool.and (pb8 f [60,83,98,109,87,89]) (Nat.beq j 0),N:=18446744073709551616 }
@[reducible] noncomputable def u:a7:=.v (.tuple #[])
theorem Of8{l:List (Nat×Sum)}(h:j8 prog G l):∀f,e7 (En l).P (En l).G f ((En l).call f):=Ce3 h
theorem bd{l:List (Nat×Sum)}{f:FuncId}{R:Env->Sum}(b:Oe5 prog f R)(h:j8 prog G l):e7 prog G f (R (En l)):=b rfl (Of8 h)
def tV:Ty V3 where
 es:=3
 row x:=[i x.x,i x.y,i x.z]
 rd r:=⟨toI (hdA r),toI (hdA (tlA r)),toI (hdA (tlA (tlA r)))⟩
 ok r:=Bb3 3 r
 cks:=List.replicate 3 (.int .i64)
 d:=⟨0,0,0⟩
 h0 _:=rfl
 h1 _:=rfl
 h2 _:=rfl
 h3 _ h:=.of (ib7 h)
 h4 _:=rfl
 h5 _:=rfl
def r1V:R1 V3:=r1A tV 3 λ_ h=>h
def tP:Ty Pln where
 es:=4
 row x:=[i x.n.x,i x.n.y,i x.n.z,i x.b]
 rd r:=⟨⟨toI (hdA r),toI (hdA (tlA r)),toI (hdA (tlA (tlA r)))⟩,toI (hdA (tlA (tlA (tlA r))))⟩
 ok r:=Bb3 4 r
 cks:=List.replicate 4 (.int .i64)
 d:=⟨⟨0,0,0⟩,0⟩
 h0 _:=rfl
 h1 _:=rfl
 h2 _:=rfl
 h3 _ h:=.of (ib7 h)
 h4 _:=rfl
 h5 _:=rfl
abbrev PLq:=List Pln
abbrev LPq:=List PLq
abbrev tLq:=tLs tP
abbrev tMq:=tLs tLq
abbrev ROq:=Option (a7×List b7)
def r1P:R1 Pln:=r1A tP 4 λ_ h=>h
structure Tp where
 p:Pln
 q:Pln
 r:Pln
structure Q2 where
 a:V3
 b:V3
set_option maxRecDepth 100000
def Fa0(x:V3)(y:V3):Int:=(W ((W ((W (x.x*y.x))+(W (x.y*y.y))))+(W (x.z*y.z))))
def wc5:Sum:=fa5 (ia6 tV) (ia6 tV) (λx y=>.ret ((one r1I).enc (Fa0 x y),[]))
theorem Hc0:e7 prog G 142 wc5:=Rd8 (bd Zf3 Ra4)
def Ja3(x:V3)(y:V3):V3:=(⟨W ((W (x.y*y.z))-(W (x.z*y.y))),W ((W (x.z*y.x))-(W (x.x*y.z))),W ((W (x.x*y.y))-(W (x.y*y.x)))⟩:V3)
def oc6:Sum:=fa5 (ia6 tV) (ia6 tV) (λx y=>.ret ((one r1V).enc (Ja3 x y),[]))
theorem Nc0:e7 prog G 140 oc6:=Rd8 (bd Zf1 Ra4)
@[reducible] noncomputable def Oa5:Sum:=Jc3 (En tbN) wf5
theorem cb8:e7 prog G 110 Oa5:=bd Xf6 Ra4
def Ja4(x:Int):ROq:=(sl (decide (x<0)) (some (i (W (0-x)),[])) (some (i x,[])))
def va8(x:Int):Int:=G5 (one r1I) (Ja4 x)
def va9(x:Int):Bool:=okO (one r1I) (Ja4 x)
def oc7:Sum:=G4 cI (λx=>.guard (va9 x) (.ret ((one r1I).enc (va8 x),[])))
theorem kd3:e7 prog G 166 oc7:=Ja2 (bd ag1 Ra4) (one r1I) (o:=Ja4)
def gd8:List (Nat×Sum):=[(166,oc7),(110,Oa5)]
theorem Zd3:j8 prog G gd8:=⟨kd3,cb8,trivial⟩
structure ra5 where
 (is6 c9 d9 e8 uf9 vf0 vf1:Int)
structure T1 where
 (is5 is7:Int)
def Ac7(p:ra5)(s:T1):St:=⟨.unk::.ptr 0 0 0 0::.ptr 1 0 0 0::.unk::.ptr 2 0 0 0::i s.is5::i p.is6::i s.is7::ra 38 [],[bq 0 3 [[i p.c9,i p.d9,i p.e8]],bq 0 3 [[i 0,i 0,i 0]],bq 0 3 [[i p.uf9,i p.vf0,i p.vf1]]]⟩
def cb9{α:Type}(k:T1->α)(e:Nat->α)(z:α)(p:ra5)(s:T1):α:=(sl (decide (s.is7>0)) (sl (s.is7==0) z (k ⟨s.is7,Int.tmod s.is5 s.is7⟩)) (e 1))
def ha7(p:ra5)(s:T1):Stp T1:=cb9 .next .exit .fail p s
def dc3:Lo ra5 T1:=⟨En gd8,0,wf8,[1,1,1,0,1,4,4,1,0,4,1,1,4,4],[1,2,4,5,6,7],.p,[⟨sUq::sPq 0::sPq 1::sUq::sPq 2::sIq::sIq::sIq::ru2 38 [],[⟨0,3,true,some [kLq 3]⟩,⟨0,3,true,some [[.o (.lit .i64 0),.o (.lit .i64 0),.o (.lit .i64 0)]]⟩,⟨0,3,true,some [kLq 3]⟩],λa H=>(⟨aIq a 6,hIq H 0 0 0,hIq H 0 0 1,hIq H 0 0 2,hIq H 2 0 0,hIq H 2 0 1,hIq H 2 0 2⟩,⟨aIq a 5,aIq a 7⟩)⟩],ha7,[(some 2,λp s=>upq (Ac7 p s) [(23,i s.is7),(24,b (decide (s.is7>0)))])],Ac7⟩
theorem Kd1:dc3.Ok:=Lo.okq [] .nil λp s=>(.ofq @cb9)
def Bb6(x:V3):ROq:=let y0:=(.tup [.agg [i 0,i 0,i 0],i 0],[]);let t1:=(va8 x.x);let t2:=(lp (ha7 (⟨0,x.x,x.y,x.z,x.x,x.y,x.z⟩:ra5)) (⟨0,t1⟩:T1));let t3:=(va8 x.y);let t4:=(lp (ha7 (⟨1,x.x,x.y,x.z,x.x,x.y,x.z⟩:ra5)) (⟨t2.2.is5,t3⟩:T1));let t5:=(va8 x.z);let t6:=(lp (ha7 (⟨2,x.x,x.y,x.z,x.x,x.y,x.z⟩:ra5)) (⟨t4.2.is5,t5⟩:T1));(sl (x.x==(-9223372036854775808)) (some y0) (sl (va9 x.x) (sl (Nat.beq t2.1 1) (sl (x.y==(-9223372036854775808)) (some y0) (sl (va9 x.y) (sl (Nat.beq t4.1 1) (sl (x.z==(-9223372036854775808)) (some y0) (sl (va9 x.z) (sl (Nat.beq t6.1 1) (sl (t6.2.is5==0) (some y0) (sl (t6.2.is5==0) none (sl (t6.2.is5==0) none (sl (t6.2.is5==0) none (some (.tup [.agg [i (W (Int.tdiv x.x t6.2.is5)),i (W (Int.tdiv x.y t6.2.is5)),i (W (Int.tdiv x.z t6.2.is5))],i t6.2.is5],[])))))) none) none)) none) none)) none) none))
def Ya3(x:V3):V3×Int:=G5 (two r1V r1I) (Bb6 x)
def Bb7(x:V3):Bool:=okO (two r1V r1I) (Bb6 x)
def Hc1:Sum:=G4 (ia6 tV) (λx=>.guard (Bb7 x) (.ret ((two r1V r1I).enc (Ya3 x),[])))
theorem gd9:e7 prog G 139 Hc1:=kc5 (bd Zf0 Zd3) (two r1V r1I) (o:=Bb6) λx=>O4 (.s .p (.s .p (.s .p (.s (.s .p (.b (.l (.s .p (.s (.b (.s .p (.s .p (.b (.u dc3.ls))))) .p))))) .p)))) [dc3.pr] (.cons Kd1 .nil)
def Zd4:List (Nat×Sum):=[(139,Hc1),(110,Oa5)]
theorem Kd2:j8 prog G Zd4:=⟨gd9,cb8,trivial⟩
def nb1(x:Pln):ROq:=let t1:=(Ya3 x.n);(sl (decide (x.n.x<(-4608))) (some (b false,[])) (sl (decide (x.n.x>4608)) (some (b false,[])) (sl (decide (x.n.y<(-4608))) (some (b false,[])) (sl (decide (x.n.y>4608)) (some (b false,[])) (sl (decide (x.n.z<(-4608))) (some (b false,[])) (sl (decide (x.n.z>4608)) (some (b false,[])) (sl (Bb7 x.n) (sl (t1.2==1) (sl (decide (x.b>=(-2097152))) (some (b (decide (x.b<=2097152)),[])) (some (b false,[]))) (some (b false,[]))) none)))))))
def Lb1(x:Pln):Bool:=G5 (one r1B) (nb1 x)
def Lb2(x:Pln):Bool:=okO (one r1B) (nb1 x)
def hd4:Sum:=G4 (ia6 tP) (λx=>.guard (Lb2 x) (.ret ((one r1B).enc (Lb1 x),[])))
theorem Zd5:e7 prog G 143 hd4:=Ja2 (bd Zf4 Kd2) (one r1B) (o:=nb1)
def Vb8(x:Int)(y:Int):ROq:=(sl (decide (y<1)) (some (i 0,[])) (sl (y==0) none (sl (y==0) none (some (i (Int.tmod (W ((Int.tmod x y)+y)) y),[])))))
def Yc0(x:Int)(y:Int):Int:=G5 (one r1I) (Vb8 x y)
def jb2(x:Int)(y:Int):Bool:=okO (one r1I) (Vb8 x y)
def Rd9:Sum:=fa5 cI cI (λx y=>.guard (jb2 x y) (.ret ((one r1I).enc (Yc0 x y),[])))
theorem ye0:e7 prog G 15 Rd9:=Lb0 (bd b15 Ra4) (one r1I) (o:=Vb8)
def V8(x:V3)(y:V3):Int:=(W ((W ((W (x.x*y.x))+(W (x.y*y.y))))+(W (x.z*y.z))))
def Lb3:Sum:=fa5 (ia6 tV) (ia6 tV) (λx y=>.ret ((one r1I).enc (V8 x y),[]))
theorem dc4:e7 prog G 100 Lb3:=Rd8 (bd Xf5 Ra4)
def ha8(x:V3)(y:V3):V3:=(⟨W ((W (x.y*y.z))-(W (x.z*y.y))),W ((W (x.z*y.x))-(W (x.x*y.z))),W ((W (x.x*y.y))-(W (x.y*y.x)))⟩:V3)
def Ob7:Sum:=fa5 (ia6 tV) (ia6 tV) (λx y=>.ret ((one r1V).enc (ha8 x y),[]))
theorem oc8:e7 prog G 114 Ob7:=Rd8 (bd Yf0 Ra4)
structure wa0 where
 is0:Int
 Ie7:List Int
 is8:Int
structure L9 where
 is9:Int
def Lb4(p:wa0)(s:L9):St:=⟨i p.is0::ra 6 (eL tI p.Ie7::i p.is8::i s.is9::ra 13 []),[]⟩
def Ba7{α:Type}(k:L9->α)(e:Nat->α)(z:α)(p:wa0)(s:L9):α:=(sl (decide (s.is9<p.is8)) (sl (inB s.is9 (List.length p.Ie7)) (sl (decide ((gL tI p.Ie7 s.is9.toNat)<(W (0-p.is0)))) (e 1) (sl (decide ((gL tI p.Ie7 s.is9.toNat)>p.is0)) (e 1) (k ⟨W (s.is9+1)⟩))) z) (e 2))
def ra6(p:wa0)(s:L9):Stp L9:=Ba7 .next .exit .fail p s
def jb3:Lo wa0 L9:=⟨En tbN,0,Mf7,[1,0,1,4,4],[0,7,8,9],.p,[⟨sIq::ru2 6 (sLq tI::sIq::sIq::ru2 13 []),[],λa H=>(⟨aIq a 0,aLq tI a 7,aIq a 8⟩,⟨aIq a 9⟩)⟩],ra6,[(none,λp s=>⟨[b false],[]⟩),(some 0,λp s=>upq (Lb4 p s) [(10,b (decide (s.is9<p.is8)))])],Lb4⟩
theorem Nc1:jb3.Ok:=Lo.okq [] .nil λp s=>(.ofq @Ba7)
def Ja5(x:Int)(y:List Int):ROq:=let t1:=(lp (ra6 (⟨x,rt tI y,(↑(List.length y):Int)⟩:wa0)) (⟨0⟩:L9));(sl ((cnE tI y)&&true) (sl (Nat.beq t1.1 1) (some (b false,[])) (sl (Nat.beq t1.1 2) (some (b true,[])) none)) none)
def wa1(x:Int)(y:List Int):Bool:=G5 (one r1B) (Ja5 x y)
def wa2(x:Int)(y:List Int):Bool:=okO (one r1B) (Ja5 x y)
def Bb8:Sum:=fa5 cI (Oa4 tI) (λx y=>.guard (wa2 x y) (.ret ((one r1B).enc (wa1 x y),[])))
theorem gc7:e7 prog G 97 Bb8:=Wc6 (bd b97 Ra4) (one r1B) (o:=Ja5) λx y=>O4 (.s .p (.s (.s .p (.b (.u jb3.ls))) .p)) [jb3.pr] (.cons Nc1 .nil)
def Oa6(x:Int):Int:=(if (W (0-x))>x then (W (0-x)) else x)
def Vb9:Sum:=G4 cI (λx=>.ret ((one r1I).enc (Oa6 x),[]))
theorem Nc2:e7 prog G 162 Vb9:=Fe2 (bd ag0 Ra4)
def jb4:List (Nat×Sum):=[(162,Vb9)]
theorem Nc3:j8 prog G jb4:=⟨Nc2,trivial⟩
structure ba7 where
 Nb7:List Int
 (is7 is8:Int)
structure N8 where
 (is3 is5:Int)
def Bb9(p:ba7)(s:N8):St:=⟨ra 3 (i s.is3::.unk::i s.is5::eL tI p.Nb7::i p.is7::i p.is8::ra 15 []),[]⟩
def va0{α:Type}(k:N8->α)(e:Nat->α)(z:α)(p:ba7)(s:N8):α:=(sl (decide (s.is5>0)) (sl (s.is5==0) z (k ⟨s.is5,Int.tmod s.is3 s.is5⟩)) (e 1))
def Y1(p:ba7)(s:N8):Stp N8:=va0 .next .exit .fail p s
def db0:Lo ba7 N8:=⟨En jb4,0,Ze8,[1,1,0,1,4,4,1,1,0,4,1,1,1,4,4],[3,5,6,7,8],.p,[⟨ru2 3 (sIq::sUq::sIq::sLq tI::sIq::sIq::ru2 15 []),[],λa H=>(⟨aLq tI a 6,aIq a 7,aIq a 8⟩,⟨aIq a 3,aIq a 5⟩)⟩],Y1,[(some 2,λp s=>upq (Bb9 p s) [(16,i s.is5),(17,b (decide (s.is5>0)))])],Bb9⟩
theorem Hc2:db0.Ok:=Lo.okq [] .nil λp s=>(.ofq @va0)
structure ra7 where
 is7:Int
structure J0 where
 is3:Int
 Nb7:List Int
 is8:Int
def Cb0(p:ra7)(s:J0):St:=⟨ra 3 (i s.is3::.unk::.unk::eL tI s.Nb7::i p.is7::i s.is8::ra 15 []),[]⟩
def va1{α:Type}(k:J0->α)(e:Nat->α)(z:α)(p:ra7)(s:J0):α:=let t1:=(Oa6 (gL tI s.Nb7 s.is8.toNat));let t2:=(lp (Y1 (⟨rt tI s.Nb7,p.is7,s.is8⟩:ba7)) (⟨s.is3,t1⟩:N8));(sl (decide (s.is8<p.is7)) (sl (inB s.is8 (List.length s.Nb7)) (sl ((gL tI s.Nb7 s.is8.toNat)==(-9223372036854775808)) (e 1) (sl ((cnE tI s.Nb7)&&true) (sl (Nat.beq t2.1 1) (k ⟨t2.2.is3,rt tI s.Nb7,W (s.is8+1)⟩) z) z)) z) (e 2))
def ka4(p:ra7)(s:J0):Stp J0:=va1 .next .exit .fail p s
def db1:Lo ra7 J0:=⟨En jb4,0,Ze8,[1,1,0,1,4,4],[3,6,7,8],.s .p (.s .p (.s (.b (.s .p (.s .p (.s .p (.b (.u db0.ls)))))) .p)),[⟨ru2 3 (sIq::sUq::sUq::sLq tI::sIq::sIq::ru2 15 []),[],λa H=>(⟨aIq a 7⟩,⟨aIq a 3,aLq tI a 6,aIq a 8⟩)⟩],ka4,[(none,λp s=>⟨[i 0],[]⟩),(some 0,λp s=>upq (Cb0 p s) [(9,b (decide (s.is8<p.is7)))])],Cb0⟩
theorem Hc3:db1.Ok:=Lo.okq [db0.pr] (.cons Hc2 .nil) λp s=>(.ofq @va1)
def Da2(x:List Int):ROq:=let t1:=(lp (ka4 (⟨(↑(List.length x):Int)⟩:ra7)) (⟨0,rt tI x,0⟩:J0));(sl ((cnE tI x)&&true) (sl (Nat.beq t1.1 1) (some (i 0,[])) (sl (Nat.beq t1.1 2) (some (i t1.2.is3,[])) none)) none)
def ea3(x:List Int):Int:=G5 (one r1I) (Da2 x)
def ea4(x:List Int):Bool:=okO (one r1I) (Da2 x)
def qb6:Sum:=G4 (Oa4 tI) (λx=>.guard (ea4 x) (.ret ((one r1I).enc (ea3 x),[])))
theorem Wb0:e7 prog G 134 qb6:=kc5 (bd Yf9 Nc3) (one r1I) (o:=Da2) λx=>O4 (.s .p (.s .p (.s (.s .p (.b (.u db1.ls))) .p))) [db1.pr] (.cons Hc3 .nil)
def Ad8:List (Nat×Sum):=[(97,Bb8),(134,qb6)]
theorem kd4:j8 prog G Ad8:=⟨gc7,Wb0,trivial⟩
def Sa0(x:Pln):ROq:=let t1:=(wa1 4608 [x.n.x,x.n.y,x.n.z]);let t2:=(ea3 [x.n.x,x.n.y,x.n.z]);let t3:=(wa1 2097152 [x.b]);(sl (wa2 4608 [x.n.x,x.n.y,x.n.z]) (sl t1 (sl (ea4 [x.n.x,x.n.y,x.n.z]) (sl (t2==1) (sl (wa2 2097152 [x.b]) (some (b t3,[])) none) (some (b false,[]))) none) (some (b false,[]))) none)
def lb2(x:Pln):Bool:=G5 (one r1B) (Sa0 x)
def lb3(x:Pln):Bool:=okO (one r1B) (Sa0 x)
def Ac8:Sum:=G4 (ia6 tP) (λx=>.guard (lb3 x) (.ret ((one r1B).enc (lb2 x),[])))
theorem Ad9:e7 prog G 99 Ac8:=Ja2 (bd b99 kd4) (one r1B) (o:=Sa0)
def Sa1(x:Int)(y:Int):ROq:=(sl (decide (x<y)) (some (i (-1),[])) (sl (decide (x>y)) (some (i 1,[])) (some (i 0,[]))))
def ha9(x:Int)(y:Int):Int:=G5 (one r1I) (Sa1 x y)
def ia0(x:Int)(y:Int):Bool:=okO (one r1I) (Sa1 x y)
def Ob8:Sum:=fa5 cI cI (λx y=>.guard (ia0 x y) (.ret ((one r1I).enc (ha9 x y),[])))
theorem oc9:e7 prog G 96 Ob8:=Lb0 (bd b96 Ra4) (one r1I) (o:=Sa1)
def Yc1:List (Nat×Sum):=[(96,Ob8)]
theorem Nc4:j8 prog G Yc1:=⟨oc9,trivial⟩
def Da3(x:Pln)(y:Pln):ROq:=let t1:=(ha9 x.n.x y.n.x);let t2:=(ha9 x.n.y y.n.y);let t3:=(ha9 x.n.z y.n.z);let t4:=(ha9 x.b y.b);(sl (ia0 x.n.x y.n.x) (sl (t1==0) (sl (ia0 x.n.y y.n.y) (sl (t2==0) (sl (ia0 x.n.z y.n.z) (sl (t3==0) (sl (ia0 x.b y.b) (sl (t4==0) (some (i t4,[])) (some (i t4,[]))) none) (some (i t3,[]))) none) (some (i t2,[]))) none) (some (i t1,[]))) none)
def Wa7(x:Pln)(y:Pln):Int:=G5 (one r1I) (Da3 x y)
def Wa8(x:Pln)(y:Pln):Bool:=okO (one r1I) (Da3 x y)
def qb7:Sum:=fa5 (ia6 tP) (ia6 tP) (λx y=>.guard (Wa8 x y) (.ret ((one r1I).enc (Wa7 x y),[])))
theorem Yc2:e7 prog G 61 qb7:=Lb0 (bd b61 Nc4) (one r1I) (o:=Da3)
def le4:List (Nat×Sum):=[(97,Bb8)]
theorem Zd6:j8 prog G le4:=⟨gc7,trivial⟩
def Cb1(x:V3):ROq:=let t1:=(wa1 24 [x.x,x.y,x.z]);(sl (wa2 24 [x.x,x.y,x.z]) (some (b t1,[])) none)
def Ba8(x:V3):Bool:=G5 (one r1B) (Cb1 x)
def Ba9(x:V3):Bool:=okO (one r1B) (Cb1 x)
def Cb2:Sum:=G4 (ia6 tV) (λx=>.guard (Ba9 x) (.ret ((one r1B).enc (Ba8 x),[])))
theorem Lb5:e7 prog G 62 Cb2:=Ja2 (bd b62 Zd6) (one r1B) (o:=Cb1)
end Go.Ev.Ce
namespace Go.Proofs
open Go.Shelf
set_option maxRecDepth 100000 in
def Ce.sortLay_ren:Go.Shelf.Ren:=⟨fun | 6=>60 | 15=>95 | 14=>94 | 28=>132 | 29=>133 | 20=>124 | 21=>125 | 22=>126 | 23=>127 | 24=>128 | 25=>129 | 26=>130 | 27=>131 | 46=>157 | 47=>158 | 48=>159 | 49=>160 | 50=>161 | 57=>171 | n=>n,fun | 22=>53 | 24=>57 | 25=>98 | 3=>3 | 39=>119 | 0=>0 | 53=>147 | 55=>149 | 4=>4 | 46=>141 | 45=>140 | 50=>38 | 5=>5 | 9=>9 | 66=>162 | 70=>166 | 76=>171 | 77=>172 | n=>n,fun | n=>n⟩
set_option maxRecDepth 100000 in
theorem Ce.sortLay:Go.Proofs.SlLaysF0.n6 Tryz.prog Ce.sortLay_ren:={
 mixed:=by kernel_rfl
 f6:=⟨Tryz.f60.name,by decide,Tryz.func60.trans (congrArg some (by kernel_rfl))⟩
 f14:=⟨Tryz.f94.name,by decide,Tryz.func94.trans (congrArg some (by kernel_rfl))⟩
 f15:=Tryz.func95.trans (congrArg some (by kernel_rfl))
 f20:=⟨Tryz.f124.name,by decide,Tryz.func124.trans (congrArg some (by kernel_rfl))⟩
 f21:=⟨Tryz.f125.name,by decide,Tryz.func125.trans (congrArg some (by kernel_rfl))⟩
 f22:=⟨Tryz.f126.name,by decide,Tryz.func126.trans (congrArg some (by kernel_rfl))⟩
 f23:=⟨Tryz.f127.name,by decide,Tryz.func127.trans (congrArg some (by kernel_rfl))⟩
 f24:=⟨Tryz.f128.name,by decide,Tryz.func128.trans (congrArg some (by kernel_rfl))⟩
 f25:=⟨Tryz.f129.name,by decide,Tryz.func129.trans (congrArg some (by kernel_rfl))⟩
 f26:=⟨Tryz.f130.name,by decide,Tryz.func130.trans (congrArg some (by kernel_rfl))⟩
 f27:=⟨Tryz.f131.name,by decide,Tryz.func131.trans (congrArg some (by kernel_rfl))⟩
 f28:=Tryz.func132.trans (congrArg some (by kernel_rfl))
 f29:=Tryz.func133.trans (congrArg some (by kernel_rfl))
 f46:=⟨Tryz.f157.name,by decide,Tryz.func157.trans (congrArg some (by kernel_rfl))⟩
 f47:=Tryz.func158.trans (congrArg some (by kernel_rfl))
 f48:=Tryz.func159.trans (congrArg some (by kernel_rfl))
 f49:=⟨Tryz.f160.name,by decide,Tryz.func160.trans (congrArg some (by kernel_rfl))⟩
 f50:=⟨Tryz.f161.name,by decide,Tryz.func161.trans (congrArg some (by kernel_rfl))⟩
 f57:=⟨Tryz.f171.name,by decide,Tryz.func171.trans (congrArg some (by kernel_rfl))⟩
 t0:=Tryz.underlying0
 a0:=Tryz.isAgg0
 z0:=Tryz.sizeOf0
 v0:=Tryz.zeroValue0
 t3:=Tryz.underlying3
 a3:=Tryz.isAgg3
 z3:=Tryz.sizeOf3
 v3:=Tryz.zeroValue3
 t4:=Tryz.underlying4
 a4:=Tryz.isAgg4
 z4:=Tryz.sizeOf4
 v4:=Tryz.zeroValue4
 t5:=Tryz.underlying5
 a5:=Tryz.isAgg5
 z5:=Tryz.sizeOf5
 v5:=Tryz.zeroValue5
 t9:=Tryz.underlying9
 a9:=Tryz.isAgg9
 z9:=Tryz.sizeOf9
 v9:=Tryz.zeroValue9
 t22:=Tryz.underlying53
 a22:=Tryz.isAgg53
 z22:=Tryz.sizeOf53
 v22:=Tryz.zeroValue53
 t25:=Tryz.underlying98
 a25:=Tryz.isAgg98
 z25:=Tryz.sizeOf98
 v25:=Tryz.zeroValue98
 t39:=Tryz.underlying119
 a39:=Tryz.isAgg119
 z39:=Tryz.sizeOf119
 v39:=Tryz.zeroValue119
 t45:=Tryz.underlying140
 a45:=Tryz.isAgg140
 z45:=Tryz.sizeOf140
 v45:=Tryz.zeroValue140
 t46:=Tryz.underlying141
 a46:=Tryz.isAgg141
 z46:=Tryz.sizeOf141
 v46:=Tryz.zeroValue141
 t50:=Tryz.underlying38
 a50:=Tryz.isAgg38
 z50:=Tryz.sizeOf38
 v50:=Tryz.zeroValue38
 t53:=Tryz.underlying147
 a53:=Tryz.isAgg147
 z53:=Tryz.sizeOf147
 v53:=Tryz.zeroValue147
 t55:=Tryz.underlying149
 a55:=Tryz.isAgg149
 z55:=Tryz.sizeOf149
 v55:=Tryz.zeroValue149
 t66:=Tryz.underlying162
 a66:=Tryz.isAgg162
 z66:=Tryz.sizeOf162
 v66:=Tryz.zeroValue162
 t70:=Tryz.underlying166
 a70:=Tryz.isAgg166
 z70:=Tryz.sizeOf166
 v70:=Tryz.zeroValue166
 t76:=Tryz.underlying171
 a76:=Tryz.isAgg171
 z76:=Tryz.sizeOf171
 v76:=Tryz.zeroValue171
 t77:=Tryz.underlying172
 a77:=Tryz.isAgg172
 z77:=Tryz.sizeOf172
 v77:=Tryz.zeroValue172 }
end Go.Proofs
namespace Go.Ev.Ce
open Go Go.Ev Go.Ev.L Go.Proofs Go.Sort
def bb2(x y:Int):Int:=if x<y then -1 else if x>y then 1 else 0
def ra8(x y:Pln):Int :=
 if bb2 x.n.x y.n.x=0 then if bb2 x.n.y y.n.y=0 then if bb2 x.n.z y.n.z=0 then bb2 x.b y.b else bb2 x.n.z y.n.z else bb2 x.n.y y.n.y else bb2 x.n.x y.n.x
theorem dc5(x y:Int):bb2 x y<0↔x<y:=by unfold bb2;split<;>(try split)<;>omega
theorem Nc5(x y:Int):bb2 x y=0↔x=y:=by unfold bb2;split<;>(try split)<;>omega
def LtP(x y:Pln):Prop:=x.n.x<y.n.x\/x.n.x=y.n.x/\(x.n.y<y.n.y\/x.n.y=y.n.y/\(x.n.z<y.n.z\/x.n.z=y.n.z/\x.b<y.b))
instance(x y:Pln):Decidable (LtP x y):=by unfold LtP;exact inferInstance
theorem Zd7(x y:Pln):ra8 x y<0↔LtP x y:=by
 have h1:=dc5 x.n.x y.n.x;have h2:=Nc5 x.n.x y.n.x;have h3:=dc5 x.n.y y.n.y;have h4:=Nc5 x.n.y y.n.y;have h5:=dc5 x.n.z y.n.z;have h6:=Nc5 x.n.z y.n.z;have h7:=dc5 x.b y.b;unfold ra8 LtP;split
 ·split
  ·split<;>omega
  ·omega
 ·omega
theorem jb5(x y:Pln):ltOf ra8 x y=decide (LtP x y):=by
 unfold ltOf;rw[decide_eq_decide];exact Zd7 x y
theorem Of9:SWO (ltOf ra8) where
 irrefl x:=by rw[jb5];simp[LtP]
 trans x y z h1 h2:=by rw[jb5,decide_eq_true_eq] at *;unfold LtP at *;omega
 ntrans x y z h1 h2:=by rw[jb5,decide_eq_false_iff_not] at *;unfold LtP at *;omega
theorem ag4(x y:Pln)(h1:ltOf ra8 x y=false)(h2:ltOf ra8 y x=false):x=y:=by
 rw[jb5,decide_eq_false_iff_not] at *
 unfold LtP at *
 obtain⟨⟨a,b,c⟩,d⟩:=x;obtain⟨⟨a',b',c'⟩,d'⟩:=y
 simp only at *
 have:a=a'/\b=b'/\c=c'/\d=d':=by omega
 obtain⟨rfl,rfl,rfl,rfl⟩:=this;rfl
theorem le5(x y:Int):Sa1 x y=some (i (bb2 x y),[]):=by
 unfold Sa1 bb2;simp only[Gc6,decide_eq_true_eq]
 split<;>(try split)<;>rfl
theorem Fe3(x y:Int):ha9 x y=bb2 x y:=by unfold ha9;rw[le5];rfl
theorem Fe4(x y:Int):ia0 x y=true:=by unfold ia0;rw[le5];rfl
theorem Bd0(x y:Pln):Da3 x y=some (i (ra8 x y),[]):=by
 unfold Da3 ra8;simp only[Fe3,Fe4,Gc6,beq_iff_eq,if_true]
 repeat' (first | rfl | split)
theorem Pf0(x y:Pln):Wa7 x y=ra8 x y:=by unfold Wa7;rw[Bd0];rfl
theorem Pf1(x y:Pln):Wa8 x y=true:=by unfold Wa8;rw[Bd0];rfl
theorem Pf2(x y:Pln):(qb7 [.agg (tP.row x),.agg (tP.row y)] []).run=some (i (ra8 x y),[]):=by
 have:(qb7 [.agg (tP.row x),.agg (tP.row y)] []).run=sel (Wa8 x y) (some (i (Wa7 x y),[])) none:=by kernel_rfl
 rw[this,Pf1,Pf0]
def Xc8(p:Pln):List Value:=[.int .i64 p.n.x,.int .i64 p.n.y,.int .i64 p.n.z,.int .i64 p.b]
instance:Inhabited Pln:=⟨⟨⟨0,0,0⟩,0⟩⟩
def Ac9(l:PLq):PLq:=l.mergeSort λx y=>!ltOf ra8 y x
theorem wc6(l:PLq):(Ac9 l).length=l.length:=Qhb l
def Za4:Sum:=Ee0 tP 61 57 Ac9
theorem af0:Ce.sortLay_ren.f 6=60:=by kernel_rfl
theorem Sd0:Ce.sortLay_ren.t 24=57:=by kernel_rfl
set_option maxRecDepth 100000 in
theorem Ob9:e7 prog G 60 Za4:=by
 refine Ee1 (enc:=Xc8) (cf:=ra8) ⟨_,Tryz.func60,by kernel_rfl,of_decide_eq_true (by kernel_rfl)⟩ (by decide) (λ_=>rfl) (λr h=>ib7 (n:=4) h) (λx v hv=>?_) wc6
  (λblk off size w=>De9 Yc2 Pf2 (λ_=>rfl) (λ_=>rfl) _ _ _ _ _) (λblk cap d w hcl hH hb hs=>?_)
 ·simp[Xc8] at hv
  rcases hv with rfl|rfl|rfl|rfl<;>rfl
 ·have eg:∀args w,(callFunc 61 args).run Tryz.prog w=.ok (.enter 61 args) w:=enters_of Tryz.func61 (by kernel_rfl) rfl
  have:=AnyQ.slices_SortFunc Ce.sortLay 4 (by rw[Sd0];exact Tryz.isAgg57) (by rw[Sd0];exact Tryz.sizeOf57) Xc8 (λ_=>rfl) (λx v hv=>by simp[Xc8] at hv;rcases hv with rfl | rfl | rfl | rfl<;>rfl) ra8 Of9 61 #[] blk 0 cap d w eg (hcl 0 d.size) hH hb hs
  rw[af0] at this;refine this.mono λe w' ⟨h1,d',n,os,h2,h3,h4⟩=>⟨h1,n,os,?_⟩
  have h5:=sorted_unique_holds Of9 ag4 d d' h2 h3;rw[h4];show _=sortWorldK Xc8 4 w blk 0 n (d.toList.mergeSort λx y=>!ltOf ra8 y x).toArray os
  rw[<- h5]
end Go.Ev.Ce
namespace Go.Ev.Ce
open Go Go.Ev Go.Ev.L Go.Proofs
set_option maxRecDepth 100000
structure Se3 where
 is1:Int
 Jf4:List Int
 d9:Int
structure Se4 where
 alt:Nat
 (is0 d9:Int)
def Oa7(x:V3)(y:V3):V3:=(⟨W (x.x-y.x),W (x.y-y.y),W (x.z-y.z)⟩:V3)
def Yc3:Sum:=fa5 (ia6 tV) (ia6 tV) (λx y=>.ret ((one r1V).enc (Oa7 x y),[]))
theorem Bd1:e7 prog G 141 Yc3:=Rd8 (bd Zf2 Ra4)
def Oe6:List (Nat×Sum):=[(110,Oa5)]
theorem ye1:j8 prog G Oe6:=⟨cb8,trivial⟩
def pc0(x:V3):ROq:=(sl (decide (x.x<(-24))) (some (b false,[])) (sl (decide (x.x>24)) (some (b false,[])) (sl (decide (x.y<(-24))) (some (b false,[])) (sl (decide (x.y>24)) (some (b false,[])) (sl (decide (x.z<(-24))) (some (b false,[])) (sl (decide (x.z>24)) (some (b false,[])) (some (b true,[]))))))))
def nb2(x:V3):Bool:=G5 (one r1B) (pc0 x)
def nb3(x:V3):Bool:=okO (one r1B) (pc0 x)
def Nc6:Sum:=G4 (ia6 tV) (λx=>.guard (nb3 x) (.ret ((one r1B).enc (nb2 x),[])))
theorem Yc4:e7 prog G 78 Nc6:=Ja2 (bd b78 ye1) (one r1B) (o:=pc0)
def Bd2:List (Nat×Sum):=[(78,Nc6),(141,Yc3),(140,oc6),(139,Hc1),(142,wc5)]
theorem kd5:j8 prog G Bd2:=⟨Yc4,Bd1,Nc0,gd9,Hc0,trivial⟩
def Sa2(x:V3)(y:V3)(z:V3):ROq:=let y0:=(.tup [.agg [i 0,i 0,i 0,i 0],b false],[]);let t1:=(nb2 x);let t2:=(nb2 y);let t3:=(nb2 z);let t4:=(Oa7 y x);let t5:=(Oa7 z x);let t6:=(Ja3 t4 t5);let t7:=(Ya3 t6);let t8:=(Fa0 t7.1 x);(sl (nb3 x) (sl (!t1) (some y0) (sl (nb3 y) (sl (!t2) (some y0) (sl (nb3 z) (sl (!t3) (some y0) (sl (Bb7 t6) (sl (t7.2==0) (some y0) (some (.tup [.agg [i t7.1.x,i t7.1.y,i t7.1.z,i t8],b true],[]))) none)) none)) none)) none)
def Fa1(x:V3)(y:V3)(z:V3):Pln×Bool:=G5 (two r1P r1B) (Sa2 x y z)
def Fa2(x:V3)(y:V3)(z:V3):Bool:=okO (two r1P r1B) (Sa2 x y z)
def Pb0:Sum:=yc6 (ia6 tV) (ia6 tV) (ia6 tV) (λx y z=>.guard (Fa2 x y z) (.ret ((two r1P r1B).enc (Fa1 x y z),[])))
theorem pc1:e7 prog G 111 Pb0:=Ze9 (bd Xf7 kd5) (two r1P r1B) (o:=Sa2)
def le6:List (Nat×Sum):=[(141,Yc3)]
theorem Zd8:j8 prog G le6:=⟨Bd1,trivial⟩
def jb6(x:Pln):Pln:=let t1:=(Oa7 (⟨0,0,0⟩:V3) x.n);(⟨t1,W (0-x.b)⟩:Pln)
def Bd3:Sum:=G4 (ia6 tP) (λx=>.ret ((one r1P).enc (jb6 x),[]))
theorem le7:e7 prog G 146 Bd3:=Fe2 (bd Zf7 Zd8)
def le8:List (Nat×Sum):=[(143,hd4),(78,Nc6),(142,wc5)]
theorem Zd9:j8 prog G le8:=⟨Zd5,Yc4,Hc0,trivial⟩
def Ya4(x:Pln)(y:V3):ROq:=let t1:=(Lb1 x);let t2:=(nb2 y);let t3:=(Fa0 x.n y);(sl (Lb2 x) (sl (!t1) (some (i 0,[])) (sl (nb3 y) (sl (!t2) (some (i 0,[])) (sl (decide ((W (t3-x.b))<0)) (some (i (-1),[])) (sl (decide ((W (t3-x.b))>0)) (some (i 1,[])) (some (i 0,[]))))) none)) none)
def Ja6(x:Pln)(y:V3):Int:=G5 (one r1I) (Ya4 x y)
def jb7(x:Pln)(y:V3):Bool:=okO (one r1I) (Ya4 x y)
def dc6:Sum:=fa5 (ia6 tP) (ia6 tV) (λx y=>.guard (jb7 x y) (.ret ((one r1I).enc (Ja6 x y),[])))
theorem pc2:e7 prog G 112 dc6:=Lb0 (bd Xf8 Zd9) (one r1I) (o:=Ya4)
structure Da4 where
 (c9 d9 e8 m0 Z7 gc0 gc1 Ie8:Int)
structure P1 where
 is7:Int
def Wb1(p:Da4)(s:P1):St:=⟨ra 5 (.ptr 0 0 0 0::.ptr 1 0 0 0::i s.is7::ra 42 []),[bq 0 4 [[i p.c9,i p.d9,i p.e8,i p.m0]],bq 0 4 [[i p.Z7,i p.gc0,i p.gc1,i p.Ie8]]]⟩
def ba8{α:Type}(k:P1->α)(e:Nat->α)(z:α)(p:Da4)(s:P1):α:=let y2:=(Nat.ble ((0+(s.is7.toNat*1))+1) 4);let y1:=(i9 [i p.Z7,i p.gc0,i p.gc1,i p.Ie8] (0+(s.is7.toNat*1)));let y4:=(y2&&(bb3 [CK.int .i64] y1));let y0:=(i9 [i p.c9,i p.d9,i p.e8,i p.m0] (0+(s.is7.toNat*1)));let y3:=(y2&&(bb3 [CK.int .i64] y0));(sl (decide (s.is7<4)) (sl (inB s.is7 4) (sl y3 (sl (inB s.is7 4) (sl y4 (sl (decide ((toI (hdA y0))<(toI (hdA y1)))) (e 1) (sl (inB s.is7 4) (sl y3 (sl (inB s.is7 4) (sl y4 (sl (decide ((toI (hdA y0))>(toI (hdA y1)))) (e 2) (k ⟨W (s.is7+1)⟩)) z) z) z) z)) z) z) z) z) (e 3))
def G6(p:Da4)(s:P1):Stp P1:=ba8 .next .exit .fail p s
def qb8:Lo Da4 P1:=⟨En tbN,0,xf1,[1,1,1,0,1,4,4],[5,6,7],.p,[⟨ru2 5 (sPq 0::sPq 1::sIq::ru2 42 []),[⟨0,4,true,some [kLq 4]⟩,⟨0,4,true,some [kLq 4]⟩],λa H=>(⟨hIq H 0 0 0,hIq H 0 0 1,hIq H 0 0 2,hIq H 0 0 3,hIq H 1 0 0,hIq H 1 0 1,hIq H 1 0 2,hIq H 1 0 3⟩,⟨aIq a 7⟩)⟩],G6,[(none,λp s=>⟨[i (-1)],[]⟩),(none,λp s=>⟨[i 1],[]⟩),(some 0,λp s=>upq (Wb1 p s) [(32,i s.is7),(33,b (decide (s.is7<4)))])],Wb1⟩
theorem Yc5:qb8.Ok:=Lo.okq [] .nil λp s=>(.ofq @ba8)
def ta4(x:Pln)(y:Pln):ROq:=let t1:=(lp (G6 (⟨x.n.x,x.n.y,x.n.z,x.b,y.n.x,y.n.y,y.n.z,y.b⟩:Da4)) (⟨0⟩:P1));(sl (Nat.beq t1.1 1) (some (i (-1),[])) (sl (Nat.beq t1.1 2) (some (i 1,[])) (sl (Nat.beq t1.1 3) (some (i 0,[])) none)))
def ta5(x:Pln)(y:Pln):Int:=G5 (one r1I) (ta4 x y)
def Pb1(x:Pln)(y:Pln):Bool:=okO (one r1I) (ta4 x y)
def Bc0:Sum:=fa5 (ia6 tP) (ia6 tP) (λx y=>.guard (Pb1 x y) (.ret ((one r1I).enc (ta5 x y),[])))
theorem Bd4:e7 prog G 167 Bc0:=Wc6 (bd ag2 Ra4) (one r1I) (o:=ta4) λx y=>O4 (.s .p (.s .p (.s .p (.s (.s .p (.b (.u qb8.ls))) .p)))) [qb8.pr] (.cons Yc5 .nil)
def nb4:List (Nat×Sum):=[(111,Pb0),(112,dc6)]
theorem ae0:j8 prog G nb4:=⟨pc1,pc2,trivial⟩
structure Ca0 where
 d6:List V3
 (is3 is4 is5:Int)
 bs7:Bool
 (c9 d9 e8 m0:Int)
structure fa7 where
 is8:Int
def Pb2(p:Ca0)(s:fa7):St:=⟨eL tV p.d6::.unk::.unk::i p.is3::i p.is4::i p.is5::.ptr 0 0 0 0::b p.bs7::i s.is8::ra 48 [],[bq 0 4 [[i p.c9,i p.d9,i p.e8,i p.m0]]]⟩
def ka5{α:Type}(k:fa7->α)(e:Nat->α)(z:α)(p:Ca0)(s:fa7):α:=let y0:=(⟨(⟨p.c9,p.d9,p.e8⟩:V3),p.m0⟩:Pln);let t1:=(Ja6 y0 (gL tV p.d6 s.is8.toNat));(sl (decide (s.is8<(↑(List.length p.d6):Int))) (sl p.bs7 (sl (inB s.is8 (List.length p.d6)) (sl (jb7 y0 (gL tV p.d6 s.is8.toNat)) (sl (t1 != 0) (e 1) (k ⟨W (s.is8+1)⟩)) z) z) (e 2)) (e 3))
def D1(p:Ca0)(s:fa7):Stp fa7:=ka5 .next .exit .fail p s
def dc7:Lo Ca0 fa7:=⟨En nb4,0,Ze6,[1,0,1,4,4,1,0,4,1,4,4,1,0,4,1,4,4,1,0,4,1,1,4,4],[0,3,4,5,6,7,8],.p,[⟨sLq tV::sUq::sUq::sIq::sIq::sIq::sPq 0::sBq::sIq::ru2 48 [],[⟨0,4,true,some [kLq 4]⟩],λa H=>(⟨aLq tV a 0,aIq a 3,aIq a 4,aIq a 5,aBq a 7,hIq H 0 0 0,hIq H 0 0 1,hIq H 0 0 2,hIq H 0 0 3⟩,⟨aIq a 8⟩)⟩],D1,[(none,λp s=>⟨[b false],[]⟩),(some 6,λp s=>upq (Pb2 p s) [(41,i s.is8),(42,eL tV p.d6),(43,i (↑(List.length p.d6):Int)),(44,b (decide (s.is8<(↑(List.length p.d6):Int)))),(45,b true),(46,b p.bs7),(47,b p.bs7)]),(some 6,λp s=>upq (Pb2 p s) [(41,i s.is8),(42,eL tV p.d6),(43,i (↑(List.length p.d6):Int)),(44,b (decide (s.is8<(↑(List.length p.d6):Int)))),(45,b false),(46,u),(47,b false)])],Pb2⟩
theorem Kd3:dc7.Ok:=Lo.okq [] .nil λp s=>(.ofq @ka5)
structure db2 where
 (is3 is4:Int)
structure fa8 where
 d6:List V3
 is5:Int
def Bc1(p:db2)(s:fa8):St:=⟨eL tV s.d6::.unk::.unk::i p.is3::i p.is4::i s.is5::ra 51 [],[]⟩
def wa3{α:Type}(k:fa8->α)(e:Nat->α)(z:α)(p:db2)(s:fa8):α:=let y0:=(List.length s.d6);let t1:=(Fa1 (gL tV s.d6 p.is3.toNat) (gL tV s.d6 p.is4.toNat) (gL tV s.d6 s.is5.toNat));let t2:=(lp (D1 (⟨rt tV s.d6,p.is3,p.is4,s.is5,t1.2,t1.1.n.x,t1.1.n.y,t1.1.n.z,t1.1.b⟩:Ca0)) (⟨0⟩:fa7));(sl (decide (s.is5<p.is4)) (sl (inB p.is3 y0) (sl (inB p.is4 y0) (sl (inB s.is5 y0) (sl (Fa2 (gL tV s.d6 p.is3.toNat) (gL tV s.d6 p.is4.toNat) (gL tV s.d6 s.is5.toNat)) (sl ((cnE tV s.d6)&&true) (sl (Nat.beq t2.1 1) (e 1) (sl (Nat.beq t2.1 2) (k ⟨rt tV s.d6,W (s.is5+1)⟩) (sl (Nat.beq t2.1 3) (k ⟨rt tV s.d6,W (s.is5+1)⟩) z))) z) z) z) z) z) (e 2))
def S8(p:db2)(s:fa8):Stp fa8:=wa3 .next .exit .fail p s
def dc8:Lo db2 fa8:=⟨En nb4,0,Ze6,[1,0,1,4,4,1,0,4,1,4,4,1,0,4,1,4,4],[0,3,4,5],.s .p (.s (.b (.s .p (.s .p (.b (.u dc7.ls))))) .p),[⟨sLq tV::sUq::sUq::sIq::sIq::sIq::ru2 51 [],[],λa H=>(⟨aIq a 3,aIq a 4⟩,⟨aLq tV a 0,aIq a 5⟩)⟩],S8,[(none,λp s=>⟨[b false],[]⟩),(some 4,λp s=>upq (Bc1 p s) [(20,i s.is5),(21,i p.is4),(22,b (decide (s.is5<p.is4)))])],Bc1⟩
theorem Kd4:dc8.Ok:=Lo.okq [dc7.pr] (.cons Kd3 .nil) λp s=>(.ofq @wa3)
structure db3 where
 is3:Int
structure fa9 where
 d6:List V3
 is4:Int
def Bc2(p:db3)(s:fa9):St:=⟨eL tV s.d6::.unk::.unk::i p.is3::i s.is4::ra 52 [],[]⟩
def wa4{α:Type}(k:fa9->α)(e:Nat->α)(z:α)(p:db3)(s:fa9):α:=let t1:=(lp (S8 (⟨p.is3,s.is4⟩:db2)) (⟨rt tV s.d6,0⟩:fa8));(sl (decide (s.is4<p.is3)) (sl ((cnE tV s.d6)&&true) (sl (Nat.beq t1.1 1) (e 1) (sl (Nat.beq t1.1 2) (k ⟨t1.2.d6,W (s.is4+1)⟩) z)) z) (e 2))
def S9(p:db3)(s:fa9):Stp fa9:=wa4 .next .exit .fail p s
def dc9:Lo db3 fa9:=⟨En nb4,0,Ze6,[1,0,1,4,4,1,0,4,1,4,4],[0,3,4],.s .p (.s (.b (.s .p (.b (.u dc8.ls)))) .p),[⟨sLq tV::sUq::sUq::sIq::sIq::ru2 52 [],[],λa H=>(⟨aIq a 3⟩,⟨aLq tV a 0,aIq a 4⟩)⟩],S9,[(none,λp s=>⟨[b false],[]⟩),(some 2,λp s=>upq (Bc2 p s) [(15,i s.is4),(16,i p.is3),(17,b (decide (s.is4<p.is3)))])],Bc2⟩
theorem Kd5:dc9.Ok:=Lo.okq [dc8.pr] (.cons Kd4 .nil) λp s=>(.ofq @wa4)
structure db4 where
structure ga0 where
 d6:List V3
 is3:Int
def Bc3(p:db4)(s:ga0):St:=⟨eL tV s.d6::.unk::.unk::i s.is3::ra 53 [],[]⟩
def wa5{α:Type}(k:ga0->α)(e:Nat->α)(z:α)(p:db4)(s:ga0):α:=let t1:=(lp (S9 (⟨s.is3⟩:db3)) (⟨rt tV s.d6,0⟩:fa9));(sl (decide (s.is3<(↑(List.length s.d6):Int))) (sl ((cnE tV s.d6)&&true) (sl (Nat.beq t1.1 1) (e 1) (sl (Nat.beq t1.1 2) (k ⟨t1.2.d6,W (s.is3+1)⟩) z)) z) (e 2))
def T0(p:db4)(s:ga0):Stp ga0:=wa5 .next .exit .fail p s
def ec0:Lo db4 ga0:=⟨En nb4,0,Ze6,[1,0,1,4,4],[0,3],.s .p (.s (.b (.s .p (.b (.u dc9.ls)))) .p),[⟨sLq tV::sUq::sUq::sIq::ru2 53 [],[],λa H=>(⟨⟩,⟨aLq tV a 0,aIq a 3⟩)⟩],T0,[(none,λp s=>⟨[b false],[]⟩),(some 0,λp s=>upq (Bc3 p s) [(9,i s.is3),(10,eL tV s.d6),(11,i (↑(List.length s.d6):Int)),(12,b (decide (s.is3<(↑(List.length s.d6):Int))))])],Bc3⟩
theorem Kd6:ec0.Ok:=Lo.okq [dc9.pr] (.cons Kd5 .nil) λp s=>(.ofq @wa5)
def Ya5(x:List V3):ROq:=let t1:=(lp (T0 (⟨⟩:db4)) (⟨rt tV x,0⟩:ga0));(sl ((cnE tV x)&&true) (sl (Nat.beq t1.1 1) (some (b false,[])) (sl (Nat.beq t1.1 2) (some (b true,[])) none)) none)
def Cb3(x:List V3):Bool:=G5 (one r1B) (Ya5 x)
def Hc4(x:List V3):Bool:=okO (one r1B) (Ya5 x)
def Bd5:Sum:=G4 (Oa4 tV) (λx=>.guard (Hc4 x) (.ret ((one r1B).enc (Cb3 x),[])))
theorem le9:e7 prog G 79 Bd5:=kc5 (bd b79 ae0) (one r1B) (o:=Ya5) λx=>O4 (.s .p (.s (.s .p (.b (.u ec0.ls))) .p)) [ec0.pr] (.cons Kd6 .nil)
def Nc7:List (Nat×Sum):=[(78,Nc6),(79,Bd5)]
theorem Kd7:j8 prog G Nc7:=⟨Yc4,le9,trivial⟩
structure Sa3 where
 d6:List V3
def pc3(p:Sa3)(s:db3):St:=⟨eL tV p.d6::.unk::.unk::i s.is3::ra 17 [],[]⟩
def pa9{α:Type}(k:db3->α)(e:Nat->α)(z:α)(p:Sa3)(s:db3):α:=let t1:=(nb2 (gL tV p.d6 s.is3.toNat));(sl (decide (s.is3<(↑(List.length p.d6):Int))) (sl (inB s.is3 (List.length p.d6)) (sl (nb3 (gL tV p.d6 s.is3.toNat)) (sl (!t1) (e 1) (k ⟨W (s.is3+1)⟩)) z) z) (e 2))
def aa2(p:Sa3)(s:db3):Stp db3:=pa9 .next .exit .fail p s
def Pb3:Lo Sa3 db3:=⟨En Nc7,0,Mf1,[1,1,0,1,4,4],[0,3],.p,[⟨sLq tV::sUq::sUq::sIq::ru2 17 [],[],λa H=>(⟨aLq tV a 0⟩,⟨aIq a 3⟩)⟩],aa2,[(none,λp s=>⟨[i 3],[]⟩),(some 0,λp s=>upq (pc3 p s) [(7,i s.is3),(8,eL tV p.d6),(9,i (↑(List.length p.d6):Int)),(10,b (decide (s.is3<(↑(List.length p.d6):Int))))])],pc3⟩
theorem Bd6:Pb3.Ok:=Lo.okq [] .nil λp s=>(.ofq @pa9)
def Ja7(x:List V3):ROq:=let t1:=(lp (aa2 (⟨rt tV x⟩:Sa3)) (⟨0⟩:db3));let t2:=(Cb3 (rt tV (rt tV x)));(sl (decide ((↑(List.length x):Int)>48)) (some (i 2,[])) (sl ((cnE tV x)&&true) (sl (Nat.beq t1.1 1) (some (i 3,[])) (sl (Nat.beq t1.1 2) (sl (okE tV (rt tV x)) (sl (Hc4 (rt tV (rt tV x))) (sl t2 (some (i 11,[])) (some (i 0,[]))) none) none) none)) none))
def Lb6(x:List V3):Int:=G5 (one r1I) (Ja7 x)
def pc4(x:List V3):Bool:=okO (one r1I) (Ja7 x)
def hd5:Sum:=G4 (Oa4 tV) (λx=>.guard (pc4 x) (.ret ((one r1I).enc (Lb6 x),[])))
theorem ae1:e7 prog G 43 hd5:=kc5 (bd b43 Kd7) (one r1I) (o:=Ja7) λx=>O4 (.s .p (.s .p (.s (.s .p (.b (.u Pb3.ls))) .p))) [Pb3.pr] (.cons Bd6 .nil)
def Nc8:List (Nat×Sum):=[(112,dc6)]
theorem Kd8:j8 prog G Nc8:=⟨pc2,trivial⟩
structure Sa4 where
 kc2:List V3
 (c9 d9 e8 m0:Int)
structure O6 where
 is5:Int
def pc5(p:Sa4)(s:O6):St:=⟨.unk::eL tV p.kc2::.ptr 0 0 0 0::.unk::.unk::i s.is5::ra 13 [],[bq 0 4 [[i p.c9,i p.d9,i p.e8,i p.m0]]]⟩
def qa0{α:Type}(k:O6->α)(e:Nat->α)(z:α)(p:Sa4)(s:O6):α:=let y0:=(⟨(⟨p.c9,p.d9,p.e8⟩:V3),p.m0⟩:Pln);let t1:=(Ja6 y0 (gL tV p.kc2 s.is5.toNat));(sl (decide (s.is5<(↑(List.length p.kc2):Int))) (sl (inB s.is5 (List.length p.kc2)) (sl (jb7 y0 (gL tV p.kc2 s.is5.toNat)) (sl (decide (t1>0)) (e 1) (k ⟨W (s.is5+1)⟩)) z) z) (e 2))
def aa3(p:Sa4)(s:O6):Stp O6:=qa0 .next .exit .fail p s
def Pb4:Lo Sa4 O6:=⟨En Nc8,0,wf9,[1,0,1,4,4],[1,2,5],.p,[⟨sUq::sLq tV::sPq 0::sUq::sUq::sIq::ru2 13 [],[⟨0,4,true,some [kLq 4]⟩],λa H=>(⟨aLq tV a 1,hIq H 0 0 0,hIq H 0 0 1,hIq H 0 0 2,hIq H 0 0 3⟩,⟨aIq a 5⟩)⟩],aa3,[(none,λp s=>⟨[b false],[]⟩),(some 0,λp s=>upq (pc5 p s) [(6,i s.is5),(7,eL tV p.kc2),(8,i (↑(List.length p.kc2):Int)),(9,b (decide (s.is5<(↑(List.length p.kc2):Int))))])],pc5⟩
theorem Bd7:Pb4.Ok:=Lo.okq [] .nil λp s=>(.ofq @qa0)
def Ja8(x:Pln)(y:List V3):ROq:=let t1:=(lp (aa3 (⟨rt tV y,x.n.x,x.n.y,x.n.z,x.b⟩:Sa4)) (⟨0⟩:O6));(sl ((cnE tV y)&&true) (sl (Nat.beq t1.1 1) (some (b false,[])) (sl (Nat.beq t1.1 2) (some (b true,[])) none)) none)
def Aa8(x:Pln)(y:List V3):Bool:=G5 (one r1B) (Ja8 x y)
def ra9(x:Pln)(y:List V3):Bool:=okO (one r1B) (Ja8 x y)
def hd6:Sum:=fa5 (ia6 tP) (Oa4 tV) (λx y=>.guard (ra9 x y) (.ret ((one r1B).enc (Aa8 x y),[])))
theorem ae2:e7 prog G 144 hd6:=Wc6 (bd Zf5 Kd8) (one r1B) (o:=Ja8) λx y=>O4 (.s .p (.s (.s .p (.b (.u Pb4.ls))) .p)) [Pb4.pr] (.cons Bd7 .nil)
def Bd8:List (Nat×Sum):=[(167,Bc0)]
theorem me0:j8 prog G Bd8:=⟨Bd4,trivial⟩
structure nb5 where
 q8:PLq
 (c9 d9 e8 m0:Int)
def Nc9(p:nb5)(s:O6):St:=⟨eL tP p.q8::.unk::.unk::.ptr 0 0 0 0::.unk::i s.is5::ra 42 [],[bq 0 4 [[i p.c9,i p.d9,i p.e8,i p.m0]]]⟩
def Fa3{α:Type}(k:O6->α)(e:Nat->α)(z:α)(p:nb5)(s:O6):α:=let y0:=(⟨(⟨p.c9,p.d9,p.e8⟩:V3),p.m0⟩:Pln);let t1:=(ta5 (gL tP p.q8 s.is5.toNat) y0);(sl (decide (s.is5<(↑(List.length p.q8):Int))) (sl (inB s.is5 (List.length p.q8)) (sl (Pb1 (gL tP p.q8 s.is5.toNat) y0) (sl (decide (t1<0)) (k ⟨W (s.is5+1)⟩) (e 1)) z) z) (e 2))
def Y5(p:nb5)(s:O6):Stp O6:=Fa3 .next .exit .fail p s
def pc6:Lo nb5 O6:=⟨En Bd8,0,xf0,[1,1,0,4,4],[0,3,5],.p,[⟨sLq tP::sUq::sUq::sPq 0::sUq::sIq::ru2 42 [],[⟨0,4,true,some [kLq 4]⟩],λa H=>(⟨aLq tP a 0,hIq H 0 0 0,hIq H 0 0 1,hIq H 0 0 2,hIq H 0 0 3⟩,⟨aIq a 5⟩)⟩],Y5,[(some 0,λp s=>let t1:=(ta5 (gL tP p.q8 s.is5.toNat) (⟨(⟨p.c9,p.d9,p.e8⟩:V3),p.m0⟩:Pln));⟨eL tP p.q8::.unk::.unk::.ptr 0 0 0 0::.unk::i s.is5::.unk::i s.is5::eL tP p.q8::i (↑(List.length p.q8):Int)::b (decide (s.is5<(↑(List.length p.q8):Int)))::b true::eL tP p.q8::i s.is5::.tptr [i (gL tP p.q8 s.is5.toNat).n.x,i (gL tP p.q8 s.is5.toNat).n.y,i (gL tP p.q8 s.is5.toNat).n.z,i (gL tP p.q8 s.is5.toNat).b]::.agg [i (gL tP p.q8 s.is5.toNat).n.x,i (gL tP p.q8 s.is5.toNat).n.y,i (gL tP p.q8 s.is5.toNat).n.z,i (gL tP p.q8 s.is5.toNat).b]::.agg [i p.c9,i p.d9,i p.e8,i p.m0]::i t1::b (decide (t1<0))::b (decide (t1<0))::ra 28 [],[bq 0 4 [[i p.c9,i p.d9,i p.e8,i p.m0]]]⟩),(some 0,λp s=>upq (Nc9 p s) [(7,i s.is5),(8,eL tP p.q8),(9,i (↑(List.length p.q8):Int)),(10,b (decide (s.is5<(↑(List.length p.q8):Int)))),(11,b false),(12,u),(13,u),(14,u),(15,u),(16,u),(17,u),(18,u),(19,b false)])],Nc9⟩
theorem ae3:pc6.Ok:=Lo.okq [] .nil λp s=>(.ofq @Fa3)
def jb8(x:PLq)(y:Pln):ROq:=let y0:=(List.length (rt tP x));let t1:=(lp (Y5 (⟨rt tP x,y.n.x,y.n.y,y.n.z,y.b⟩:nb5)) (⟨0⟩:O6));let a0:=(l6 (λk=>(λk=>(tP).row (gL tP (rt tP x) k)) (0+k)) (List.range (t1.2.is5.toNat-0)));let y2:=((0+(len a0))+1);let y1:=(app (app [] a0) [[i y.n.x,i y.n.y,i y.n.z,i y.b]]);let a1:=(l6 (λk=>(λk=>(tP).row (gL tP (rt tP x) k)) (t1.2.is5.toNat+k)) (List.range (y0-t1.2.is5.toNat)));let a2:=(inB t1.2.is5 (y0+1));let a3:=(Nat.beq (0+(len a0)) (len (app [] a0))&&Nat.ble (y2*32) room);let a4:=(y2+(len a1));let a5:=(gL tP (rt tP x) t1.2.is5.toNat);let a6:=(Nat.beq 0 0&&Nat.ble ((0+(len a0))*32) room);let w0:ROq:=(sl a2 (sl a6 (sl a3 (sl a2 (sl (Nat.beq y2 (len y1)&&Nat.ble (a4*32) room) (some (.sl 0 0 a4 0,[bq 57 4 (app y1 a1)])) none) none) none) none) none);let w1:ROq:=(sl (decide (t1.2.is5<(↑y0:Int))) (sl (inB t1.2.is5 y0) (sl ((a5.n.x==y.n.x)&&((a5.n.y==y.n.y)&&((a5.n.z==y.n.z)&&((a5.b==y.b)&&true)))) (some (eL tP (rt tP x),[])) w0) none) w0);(sl ((cnE tP x)&&true) (sl (Nat.beq t1.1 1) w1 (sl (Nat.beq t1.1 2) w1 none)) none)
def Fa4(x:PLq)(y:Pln):PLq:=G5 (one (r1L tP)) (jb8 x y)
def Fa5(x:PLq)(y:Pln):Bool:=okO (one (r1L tP)) (jb8 x y)
def Sd1:Sum:=fa5 (Oa4 tP) (ia6 tP) (λx y=>.guard (Fa5 x y) (.ret ((one (r1L tP)).enc (Fa4 x y),[])))
theorem ye2:e7 prog G 145 Sd1:=Wc6 (bd Zf6 me0) (one (r1L tP)) (o:=jb8) λx y=>O4 (.s .p (.s .p (.s (.b (.u pc6.ls)) .p))) [pc6.pr] (.cons ae3 .nil)
def wb0:List (Nat×Sum):=[(43,hd5),(111,Pb0),(144,hd6),(145,Sd1),(146,Bd3)]
theorem Kd9:j8 prog G wb0:=⟨ae1,pc1,ae2,ye2,le7,trivial⟩
structure Y6 where
 d6:List V3
 (is6 is7:Int)
structure C4 where
 ph:Nat
 is8:Int
 Ra1:PLq
def gc8(p:Y6)(s:C4):St:=⟨eL tV p.d6::ra 4 (nlq::i p.is6::i p.is7::i s.is8::ra 56 []),[]⟩
def gc9(p:Y6)(s:C4):St:=⟨eL tV p.d6::ra 4 (eL tP s.Ra1::i p.is6::i p.is7::i s.is8::ra 56 []),[]⟩
def Bd9(p:Y6)(s:C4):St:=(sel (Nat.beq s.ph 1) (gc9 p s) (gc8 p s))
def qa1{α:Type}(k:C4->α)(e:Nat->α)(z:α)(p:Y6)(s:C4):α:=let y0:=(List.length p.d6);let t1:=(Fa1 (gL tV p.d6 p.is6.toNat) (gL tV p.d6 p.is7.toNat) (gL tV p.d6 s.is8.toNat));let t2:=(Aa8 t1.1 (rt tV p.d6));let t3:=(Fa4 [] t1.1);let t4:=(jb6 t1.1);let t5:=(Aa8 t4 (rt tV p.d6));let t6:=(Fa4 (rt tP t3) t4);let t7:=(Fa4 [] t4);(sl (decide (s.is8<p.is7)) (sl (inB p.is6 y0) (sl (inB p.is7 y0) (sl (inB s.is8 y0) (sl (Fa2 (gL tV p.d6 p.is6.toNat) (gL tV p.d6 p.is7.toNat) (gL tV p.d6 s.is8.toNat)) (sl (!t1.2) (k ⟨0,W (s.is8+1),[]⟩) (sl (okE tV p.d6) (sl (ra9 t1.1 (rt tV p.d6)) (sl t2 (sl (Fa5 [] t1.1) (sl (okE tV p.d6) (sl (ra9 t4 (rt tV p.d6)) (sl t5 (sl (okE tP t3) (sl (Fa5 (rt tP t3) t4) (k ⟨1,W (s.is8+1),t6⟩) z) z) (k ⟨1,W (s.is8+1),t3⟩)) z) z) z) (sl (okE tV p.d6) (sl (ra9 t4 (rt tV p.d6)) (sl t5 (sl (Fa5 [] t4) (k ⟨1,W (s.is8+1),t7⟩) z) (k ⟨0,W (s.is8+1),[]⟩)) z) z)) z) z)) z) z) z) z) (e 1))
def qa2{α:Type}(k:C4->α)(e:Nat->α)(z:α)(p:Y6)(s:C4):α:=let y0:=(List.length p.d6);let t1:=(Fa1 (gL tV p.d6 p.is6.toNat) (gL tV p.d6 p.is7.toNat) (gL tV p.d6 s.is8.toNat));let t2:=(Aa8 t1.1 (rt tV p.d6));let t3:=(Fa4 (rt tP s.Ra1) t1.1);let t4:=(jb6 t1.1);let t5:=(Aa8 t4 (rt tV p.d6));let t6:=(Fa4 (rt tP t3) t4);let t7:=(Fa4 (rt tP s.Ra1) t4);(sl (decide (s.is8<p.is7)) (sl (inB p.is6 y0) (sl (inB p.is7 y0) (sl (inB s.is8 y0) (sl (Fa2 (gL tV p.d6 p.is6.toNat) (gL tV p.d6 p.is7.toNat) (gL tV p.d6 s.is8.toNat)) (sl (!t1.2) (k ⟨1,W (s.is8+1),s.Ra1⟩) (sl (okE tV p.d6) (sl (ra9 t1.1 (rt tV p.d6)) (sl t2 (sl (okE tP s.Ra1) (sl (Fa5 (rt tP s.Ra1) t1.1) (sl (okE tV p.d6) (sl (ra9 t4 (rt tV p.d6)) (sl t5 (sl (okE tP t3) (sl (Fa5 (rt tP t3) t4) (k ⟨1,W (s.is8+1),t6⟩) z) z) (k ⟨1,W (s.is8+1),t3⟩)) z) z) z) z) (sl (okE tV p.d6) (sl (ra9 t4 (rt tV p.d6)) (sl t5 (sl (okE tP s.Ra1) (sl (Fa5 (rt tP s.Ra1) t4) (k ⟨1,W (s.is8+1),t7⟩) z) z) (k ⟨1,W (s.is8+1),s.Ra1⟩)) z) z)) z) z)) z) z) z) z) (e 2))
def ka6(p:Y6)(s:C4):Stp C4:=(sel (Nat.beq s.ph 1) (qa2 .next .exit .fail p s) (qa1 .next .exit .fail p s))
def Pb5:Lo Y6 C4:=⟨En wb0,0,Fe1,[1,1,1,1,0,1,4,4,1,0,4,1,4,4,1,0,4,1,4,4],[0,5,6,7,8],.p,[⟨sLq tV::ru2 4 (.s (.o .nil)::sIq::sIq::sIq::ru2 56 []),[],λa H=>(⟨aLq tV a 0,aIq a 6,aIq a 7⟩,⟨0,aIq a 8,[]⟩)⟩,⟨sLq tV::ru2 4 (sLq tP::sIq::sIq::sIq::ru2 56 []),[],λa H=>(⟨aLq tV a 0,aIq a 6,aIq a 7⟩,⟨1,aIq a 8,aLq tP a 5⟩)⟩],ka6,[(some 4,λp s=>upq (gc8 p s) [(27,i s.is8),(28,i p.is7),(29,b (decide (s.is8<p.is7)))]),(some 4,λp s=>upq (gc9 p s) [(27,i s.is8),(28,i p.is7),(29,b (decide (s.is8<p.is7)))])],Bd9⟩
theorem Cd0:Pb5.Ok:=Lo.okq [] .nil λp s=>(.sel (Nat.beq s.ph 1) (.ofq @qa2) (.ofq @qa1))
structure Y7 where
 is6:Int
structure C5 where
 ph:Nat
 d6:List V3
 is7:Int
 Ra1:PLq
def hc3(p:Y7)(s:C5):St:=⟨eL tV s.d6::ra 4 (nlq::i p.is6::i s.is7::ra 57 []),[]⟩
def hc5(p:Y7)(s:C5):St:=⟨eL tV s.d6::ra 4 (eL tP s.Ra1::i p.is6::i s.is7::ra 57 []),[]⟩
def Cd1(p:Y7)(s:C5):St:=(sel (Nat.beq s.ph 1) (hc5 p s) (hc3 p s))
def qa3{α:Type}(k:C5->α)(e:Nat->α)(z:α)(p:Y7)(s:C5):α:=let t1:=(lp (ka6 (⟨rt tV s.d6,p.is6,s.is7⟩:Y6)) (⟨0,0,[]⟩:C4));(sl (decide (s.is7<p.is6)) (sl ((cnE tV s.d6)&&true) (sl (Nat.beq t1.1 1) (k ⟨0,rt tV s.d6,W (s.is7+1),[]⟩) (sl (Nat.beq t1.1 2) (k ⟨1,rt tV s.d6,W (s.is7+1),t1.2.Ra1⟩) z)) z) (e 1))
def qa4{α:Type}(k:C5->α)(e:Nat->α)(z:α)(p:Y7)(s:C5):α:=let t1:=(lp (ka6 (⟨rt tV s.d6,p.is6,s.is7⟩:Y6)) (⟨1,0,rt tP s.Ra1⟩:C4));(sl (decide (s.is7<p.is6)) (sl ((cnE tV s.d6)&&((cnE tP s.Ra1)&&true)) (sl (Nat.beq t1.1 1) (k ⟨0,rt tV s.d6,W (s.is7+1),[]⟩) (sl (Nat.beq t1.1 2) (k ⟨1,rt tV s.d6,W (s.is7+1),t1.2.Ra1⟩) z)) z) (e 2))
def ka7(p:Y7)(s:C5):Stp C5:=(sel (Nat.beq s.ph 1) (qa4 .next .exit .fail p s) (qa3 .next .exit .fail p s))
def Pb6:Lo Y7 C5:=⟨En wb0,0,Fe1,[1,1,1,1,0,1,4,4,1,0,4,1,4,4],[0,5,6,7],.s .p (.s (.b (.s .p (.b (.u Pb5.ls)))) .p),[⟨sLq tV::ru2 4 (.s (.o .nil)::sIq::sIq::ru2 57 []),[],λa H=>(⟨aIq a 6⟩,⟨0,aLq tV a 0,aIq a 7,[]⟩)⟩,⟨sLq tV::ru2 4 (sLq tP::sIq::sIq::ru2 57 []),[],λa H=>(⟨aIq a 6⟩,⟨1,aLq tV a 0,aIq a 7,aLq tP a 5⟩)⟩],ka7,[(some 2,λp s=>upq (hc3 p s) [(22,i s.is7),(23,i p.is6),(24,b (decide (s.is7<p.is6)))]),(some 2,λp s=>upq (hc5 p s) [(22,i s.is7),(23,i p.is6),(24,b (decide (s.is7<p.is6)))])],Cd1⟩
theorem Cd2:Pb6.Ok:=Lo.okq [Pb5.pr] (.cons Cd0 .nil) λp s=>(.sel (Nat.beq s.ph 1) (.ofq @qa4) (.ofq @qa3))
structure D2 where
 ph:Nat
 d6:List V3
 is6:Int
 Ra1:PLq
def hc6(p:db4)(s:D2):St:=⟨eL tV s.d6::ra 4 (nlq::i s.is6::ra 58 []),[]⟩
def hc7(p:db4)(s:D2):St:=⟨eL tV s.d6::ra 4 (eL tP s.Ra1::i s.is6::ra 58 []),[]⟩
def Cd3(p:db4)(s:D2):St:=(sel (Nat.beq s.ph 1) (hc7 p s) (hc6 p s))
def qa5{α:Type}(k:D2->α)(e:Nat->α)(z:α)(p:db4)(s:D2):α:=let t1:=(lp (ka7 (⟨s.is6⟩:Y7)) (⟨0,rt tV s.d6,0,[]⟩:C5));(sl (decide (s.is6<(↑(List.length s.d6):Int))) (sl ((cnE tV s.d6)&&true) (sl (Nat.beq t1.1 1) (k ⟨0,t1.2.d6,W (s.is6+1),[]⟩) (sl (Nat.beq t1.1 2) (k ⟨1,t1.2.d6,W (s.is6+1),t1.2.Ra1⟩) z)) z) (e 1))
def qa6{α:Type}(k:D2->α)(e:Nat->α)(z:α)(p:db4)(s:D2):α:=let t1:=(lp (ka7 (⟨s.is6⟩:Y7)) (⟨1,rt tV s.d6,0,rt tP s.Ra1⟩:C5));(sl (decide (s.is6<(↑(List.length s.d6):Int))) (sl ((cnE tV s.d6)&&((cnE tP s.Ra1)&&true)) (sl (Nat.beq t1.1 1) (k ⟨0,t1.2.d6,W (s.is6+1),[]⟩) (sl (Nat.beq t1.1 2) (k ⟨1,t1.2.d6,W (s.is6+1),t1.2.Ra1⟩) z)) z) (e 2))
def db5(p:db4)(s:D2):Stp D2:=(sel (Nat.beq s.ph 1) (qa6 .next .exit .fail p s) (qa5 .next .exit .fail p s))
def Pb7:Lo db4 D2:=⟨En wb0,0,Fe1,[1,1,1,1,0,1,4,4],[0,5,6],.s .p (.s (.b (.s .p (.b (.u Pb6.ls)))) .p),[⟨sLq tV::ru2 4 (.s (.o .nil)::sIq::ru2 58 []),[],λa H=>(⟨⟩,⟨0,aLq tV a 0,aIq a 6,[]⟩)⟩,⟨sLq tV::ru2 4 (sLq tP::sIq::ru2 58 []),[],λa H=>(⟨⟩,⟨1,aLq tV a 0,aIq a 6,aLq tP a 5⟩)⟩],db5,[(some 0,λp s=>upq (hc6 p s) [(16,i s.is6),(17,eL tV s.d6),(18,i (↑(List.length s.d6):Int)),(19,b (decide (s.is6<(↑(List.length s.d6):Int))))]),(some 0,λp s=>upq (hc7 p s) [(16,i s.is6),(17,eL tV s.d6),(18,i (↑(List.length s.d6):Int)),(19,b (decide (s.is6<(↑(List.length s.d6):Int))))])],Cd3⟩
theorem Cd4:Pb7.Ok:=Lo.okq [Pb6.pr] (.cons Cd2 .nil) λp s=>(.sel (Nat.beq s.ph 1) (.ofq @qa6) (.ofq @qa5))
def Ja9(x:List V3):ROq:=let t1:=(Lb6 (rt tV x));let t2:=(lp (db5 (⟨⟩:db4)) (⟨0,rt tV x,0,[]⟩:D2));(sl (okE tV x) (sl (pc4 (rt tV x)) (sl (t1 != 0) (some (.tup [nlq,i t1],[])) (sl ((cnE tV x)&&true) (sl (Nat.beq t2.1 1) (some (.tup [nlq,i 0],[])) (sl (Nat.beq t2.1 2) (some (.tup [eL tP t2.2.Ra1,i 0],[])) none)) none)) none) none)
def pc7(x:List V3):PLq×Int:=G5 (two (r1L tP) r1I) (Ja9 x)
def pc8(x:List V3):Bool:=okO (two (r1L tP) r1I) (Ja9 x)
def hd7:Sum:=G4 (Oa4 tV) (λx=>.guard (pc8 x) (.ret ((two (r1L tP) r1I).enc (pc7 x),[])))
theorem ae4:e7 prog G 113 hd7:=kc5 (bd Xf9 Kd9) (two (r1L tP) r1I) (o:=Ja9) λx=>O4 (.s .p (.s .p (.s .p (.s .p (.s (.s .p (.b (.u Pb7.ls))) .p))))) [Pb7.pr] (.cons Cd4 .nil)
def Ka0(x:V3)(y:V3):V3:=(⟨W (x.x-y.x),W (x.y-y.y),W (x.z-y.z)⟩:V3)
def pc9:Sum:=fa5 (ia6 tV) (ia6 tV) (λx y=>.ret ((one r1V).enc (Ka0 x y),[]))
theorem Oc0:e7 prog G 123 pc9:=Rd8 (bd Yf8 Ra4)
def Ld0:List (Nat×Sum):=[(123,pc9)]
theorem Cd5:j8 prog G Ld0:=⟨Oc0,trivial⟩
def Oa8(x:Pln):Pln:=let t1:=(Ka0 (⟨0,0,0⟩:V3) x.n);(⟨t1,W (0-x.b)⟩:Pln)
def Oc1:Sum:=G4 (ia6 tP) (λx=>.ret ((one r1P).enc (Oa8 x),[]))
theorem Ld1:e7 prog G 92 Oc1:=Fe2 (bd b92 Cd5)
def Ld2:List (Nat×Sum):=[(134,qb6)]
theorem Cd6:j8 prog G Ld2:=⟨Wb0,trivial⟩
def db6(x:V3):ROq:=let t1:=(ea3 [x.x,x.y,x.z]);(sl (ea4 [x.x,x.y,x.z]) (sl (t1==0) (some (.tup [.agg [i 0,i 0,i 0],i 0],[])) (sl (t1==0) none (sl (t1==0) none (sl (t1==0) none (some (.tup [.agg [i (W (Int.tdiv x.x t1)),i (W (Int.tdiv x.y t1)),i (W (Int.tdiv x.z t1))],i t1],[])))))) none)
def Oa9(x:V3):V3×Int:=G5 (two r1V r1I) (db6 x)
def wb1(x:V3):Bool:=okO (two r1V r1I) (db6 x)
def Oc2:Sum:=G4 (ia6 tV) (λx=>.guard (wb1 x) (.ret ((two r1V r1I).enc (Oa9 x),[])))
theorem Ld3:e7 prog G 122 Oc2:=Ja2 (bd Yf7 Cd6) (two r1V r1I) (o:=db6)
def Yc6:List (Nat×Sum):=[(62,Cb2),(123,pc9),(114,Ob7),(122,Oc2),(100,Lb3)]
theorem Oc3:j8 prog G Yc6:=⟨Lb5,Oc0,oc8,Ld3,dc4,trivial⟩
def Da5(x:V3)(y:V3)(z:V3):ROq:=let y0:=(.tup [.agg [i 0,i 0,i 0,i 0],b false],[]);let t1:=(Ba8 x);let t2:=(Ba8 y);let t3:=(Ba8 z);let t4:=(Ka0 y x);let t5:=(Ka0 z x);let t6:=(ha8 t4 t5);let t7:=(Oa9 t6);let t8:=(V8 t7.1 x);(sl (Ba9 x) (sl (!t1) (some y0) (sl (Ba9 y) (sl (!t2) (some y0) (sl (Ba9 z) (sl (!t3) (some y0) (sl (wb1 t6) (some (.tup [.agg [i t7.1.x,i t7.1.y,i t7.1.z,i t8],b (decide (t7.2>0))],[])) none)) none)) none)) none)
def L3(x:V3)(y:V3)(z:V3):Pln×Bool:=G5 (two r1P r1B) (Da5 x y z)
def qa7(x:V3)(y:V3)(z:V3):Bool:=okO (two r1P r1B) (Da5 x y z)
def qb9:Sum:=yc6 (ia6 tV) (ia6 tV) (ia6 tV) (λx y z=>.guard (qa7 x y z) (.ret ((two r1P r1B).enc (L3 x y z),[])))
theorem Wb2:e7 prog G 91 qb9:=Ze9 (bd b91 Oc3) (two r1P r1B) (o:=Da5)
def Ld4:List (Nat×Sum):=[(99,Ac8),(62,Cb2),(100,Lb3),(96,Ob8)]
theorem Cd7:j8 prog G Ld4:=⟨Ad9,Lb5,dc4,oc9,trivial⟩
def db7(x:Pln)(y:V3):ROq:=let t1:=(lb2 x);let t2:=(Ba8 y);let t3:=(V8 x.n y);let t4:=(ha9 t3 x.b);(sl (lb3 x) (sl (!t1) (some (i 0,[])) (sl (Ba9 y) (sl (!t2) (some (i 0,[])) (sl (ia0 t3 x.b) (some (i t4,[])) none)) none)) none)
def sa0(x:Pln)(y:V3):Int:=G5 (one r1I) (db7 x y)
def sa1(x:Pln)(y:V3):Bool:=okO (one r1I) (db7 x y)
def db8:Sum:=fa5 (ia6 tP) (ia6 tV) (λx y=>.guard (sa1 x y) (.ret ((one r1I).enc (sa0 x y),[])))
theorem lb4:e7 prog G 65 db8:=Lb0 (bd b65 Cd7) (one r1I) (o:=db7)
structure Pb8 where
 (pb4 pb5 pb6 c9 d9 e8 m0:Int)
def Cd8:List (Nat×Sum):=[(65,db8)]
theorem kd6:j8 prog G Cd8:=⟨lb4,trivial⟩
structure Pb9 where
 alt:Nat
 bs0:Bool
def Qb0{α:Type}(kk:Pb9->α)(x:Pb8):α:=let y1:=(⟨x.pb4,x.pb5,x.pb6⟩:V3);let y0:=(⟨(⟨x.c9,x.d9,x.e8⟩:V3),x.m0⟩:Pln);let t1:=(sa0 y0 y1);(sl (sa1 y0 y1) (kk ⟨1,t1 != 0⟩) (kk ⟨0,false⟩))
def lb5(x:Pb8):Pb9:=Qb0 (λr=>r) x
def qc0(x:Pb8)(r:Pb9):DT (a7×List b7):=(Da1 r.alt 1 (b r.bs0,[bq 0 4 [[i x.c9,i x.d9,i x.e8,i x.m0]]]) .fail)
def Bc4:Sum:=Aa7 ⟨[.agg (kLq 3),sPq 0],[⟨0,4,true,some [kLq 4]⟩],λa H=>(⟨cIq a 0 0,cIq a 0 1,cIq a 0 2,hIq H 0 0 0,hIq H 0 0 1,hIq H 0 0 2,hIq H 0 0 3⟩,())⟩ (λx=>qc0 x (lb5 x))
theorem Cd9:e7 prog G 118 Bc4:=s8 (enc:=λx=>⟨[.agg [i x.pb4,i x.pb5,i x.pb6],.ptr 0 0 0 0],[bq 0 4 [[i x.c9,i x.d9,i x.e8,i x.m0]]]⟩) (λa H=>by kernel_rfl) (bd Yf4 kd6) λx=>ka3 (mEq @Qb0 (λr=>(qc0 x r).run) x)
structure wa6 where
 d6:List V3
 (c9 d9 e8 m0:Int)
def Sa5:List (Nat×Sum):=[(118,Bc4)]
theorem Hb8:j8 prog G Sa5:=⟨Cd9,trivial⟩
structure M1 where
 d6:List V3
 (is7 c9 d9 e8 m0:Int)
def Ka1(p:M1)(s:fa7):St:=⟨eL tV p.d6::.fn 118 [.ptr 0 0 0 0]::ra 5 (i p.is7::i s.is8::ra 10 []),[bq 0 4 [[i p.c9,i p.d9,i p.e8,i p.m0]]]⟩
def R3{α:Type}(k:fa7->α)(e:Nat->α)(z:α)(p:M1)(s:fa7):α:=let y0:=(gL tV p.d6 s.is8.toNat);let t1:=(lb5 ⟨y0.x,y0.y,y0.z,p.c9,p.d9,p.e8,p.m0⟩);(sl (decide (s.is8<p.is7)) (sl (inB s.is8 (List.length p.d6)) (sl (Nat.beq t1.alt 1) (sl t1.bs0 (e 1) (k ⟨W (s.is8+1)⟩)) z) z) (e 2))
def J9(p:M1)(s:fa7):Stp fa7:=R3 .next .exit .fail p s
def oa1:Lo M1 fa7:=⟨En Sa5,1,gd7,[1,0,1,4,4],[0,1,7,8],.p,[⟨sLq tV::.fn 118 [.o (.ptr 0 0 0 0)]::ru2 5 (sIq::sIq::ru2 10 []),[⟨0,4,true,some [kLq 4]⟩],λa H=>(⟨aLq tV a 0,aIq a 7,hIq H 0 0 0,hIq H 0 0 1,hIq H 0 0 2,hIq H 0 0 3⟩,⟨aIq a 8⟩)⟩],J9,[(none,λp s=>⟨[i s.is8],[bq 0 4 [[i p.c9,i p.d9,i p.e8,i p.m0]]]⟩),(some 0,λp s=>upq (Ka1 p s) [(9,b (decide (s.is8<p.is7)))])],Ka1⟩
theorem Cb4:oa1.Ok:=Lo.okq [] .nil λp s=>(.ofq @R3)
structure wa7 where
 alt:Nat
 is0:Int
def wa8{α:Type}(kk:wa7->α)(x:wa6):α:=let t1:=(lp (J9 (⟨rt tV x.d6,(↑(List.length x.d6):Int),x.c9,x.d9,x.e8,x.m0⟩:M1)) (⟨0⟩:fa7));(sl ((cnE tV x.d6)&&true) (sl (Nat.beq t1.1 1) (kk ⟨1,t1.2.is8⟩) (sl (Nat.beq t1.1 2) (kk ⟨1,-1⟩) (kk ⟨0,0⟩))) (kk ⟨0,0⟩))
def ba9(x:wa6):wa7:=wa8 (λr=>r) x
def Sa6(x:wa6)(r:wa7):DT (a7×List b7):=(Da1 r.alt 1 (i r.is0,[bq 0 4 [[i x.c9,i x.d9,i x.e8,i x.m0]]]) .fail)
def Za5:Sum:=Aa7 ⟨[sLq tV,.fn 118 [.o (.ptr 0 0 0 0)]],[⟨0,4,true,some [kLq 4]⟩],λa H=>(⟨aLq tV a 0,hIq H 0 0 0,hIq H 0 0 1,hIq H 0 0 2,hIq H 0 0 3⟩,())⟩ (λx=>Sa6 x (ba9 x))
theorem Qb1:e7 prog G 109 Za5:=s8 (enc:=λx=>⟨[eL tV x.d6,.fn 118 [.ptr 0 0 0 0]],[bq 0 4 [[i x.c9,i x.d9,i x.e8,i x.m0]]]⟩) (λa H=>by kernel_rfl) (bd xe9 Hb8) λx=>O4 (.s .p (.s (.s .p (.b (.u oa1.ls))) .p)) [oa1.pr] (.cons Cb4 .nil) (mEq @wa8 (λr=>(Sa6 x r).run) x)
def wb2:List (Nat×Sum):=[(109,Za5)]
theorem rb0:j8 prog G wb2:=⟨Qb1,trivial⟩
def la0{α:Type}(kk:Pb9->α)(x:wa6):α:=let t1:=(ba9 ⟨rt tV x.d6,x.c9,x.d9,x.e8,x.m0⟩);(sl ((cnE tV x.d6)&&true) (sl (Nat.beq t1.alt 1) (kk ⟨1,decide (t1.is0>=0)⟩) (kk ⟨0,false⟩)) (kk ⟨0,false⟩))
def q9(x:wa6):Pb9:=la0 (λr=>r) x
def Ha2(x:wa6)(r:Pb9):DT (a7×List b7):=(Da1 r.alt 1 (b r.bs0,[bq 0 4 [[i x.c9,i x.d9,i x.e8,i x.m0]]]) .fail)
def Ka2:Sum:=Aa7 ⟨[sLq tV,.fn 118 [.o (.ptr 0 0 0 0)]],[⟨0,4,true,some [kLq 4]⟩],λa H=>(⟨aLq tV a 0,hIq H 0 0 0,hIq H 0 0 1,hIq H 0 0 2,hIq H 0 0 3⟩,())⟩ (λx=>Ha2 x (q9 x))
theorem wb3:e7 prog G 74 Ka2:=s8 (enc:=λx=>⟨[eL tV x.d6,.fn 118 [.ptr 0 0 0 0]],[bq 0 4 [[i x.c9,i x.d9,i x.e8,i x.m0]]]⟩) (λa H=>by kernel_rfl) (bd b74 rb0) λx=>ka3 (mEq @la0 (λr=>(Ha2 x r).run) x)
@[reducible] noncomputable def wa9:Sum:=Jc3 (En tbN) Mf3
theorem Da6:e7 prog G 58 wa9:=bd b58 Ra4
def wb4:List (Nat×Sum):=[(91,qb9),(74,Ka2),(58,wa9)]
theorem Ld5:j8 prog G wb4:=⟨Wb2,wb3,Da6,trivial⟩
structure ia2 where
 (is3 is4 is9 m9 Ub5 N1 qd1:Int)
 (a8 g9:List V3)
structure L4 where
 N2:Int
def qc1(p:ia2)(s:L4):St:=⟨.unk::.ptr 0 0 0 0::.unk::i p.is3::i p.is4::ra 4 (i p.is9::i p.m9::ra 5 (i p.Ub5::i p.N1::ra 5 (i p.qd1::i s.N2::ra 35 (i 0::.unk::.ptr 1 0 0 0::.ptr 2 0 0 0::ra 8 [])))),[bq 0 1 [[eL tV p.a8]],bq 0 1 [[eL tV p.g9]],bq 0 1 [[b false]]]⟩
def Wa9{α:Type}(k:L4->α)(e:Nat->α)(z:α)(p:ia2)(s:L4):α:=let y0:=(List.length p.a8);let t1:=(L3 (gL tV p.a8 s.N2.toNat) (gL tV p.a8 p.is4.toNat) (gL tV p.a8 p.is3.toNat));let t2:=(q9 ⟨rt tV p.g9,t1.1.n.x,t1.1.n.y,t1.1.n.z,t1.1.b⟩);(sl (decide (s.N2<p.qd1)) (sl (inB s.N2 y0) (sl (inB p.is4 y0) (sl (inB p.is3 y0) (sl (qa7 (gL tV p.a8 s.N2.toNat) (gL tV p.a8 p.is4.toNat) (gL tV p.a8 p.is3.toNat)) (sl t1.2 (sl t1.2 (sl ((cnE tV p.g9)&&true) (sl (Nat.beq t2.alt 1) (e 1) z) z) (k ⟨W (s.N2+1)⟩)) (sl t1.2 z (k ⟨W (s.N2+1)⟩))) z) z) z) z) (e 2))
def T2(p:ia2)(s:L4):Stp L4:=Wa9 .next .exit .fail p s
def Qb2:Lo ia2 L4:=⟨En wb4,0,nf9,[1,0,1,4,4,1,4,4,1,1,0,4,1,1,4,4,1,1,0,4,1,1,4,4],[1,3,4,9,10,16,17,23,24,60,62,63],.p,[⟨sUq::sPq 0::sUq::sIq::sIq::ru2 4 (sIq::sIq::ru2 5 (sIq::sIq::ru2 5 (sIq::sIq::ru2 35 (.s (.o (.lit .i64 0))::sUq::sPq 1::sPq 2::ru2 8 [])))),[⟨0,1,true,some [[.c 3 (nL tV)]]⟩,⟨0,1,true,some [[.c 3 (nL tV)]]⟩,⟨0,1,true,some [[.o (.blit false)]]⟩],λa H=>(⟨aIq a 3,aIq a 4,aIq a 9,aIq a 10,aIq a 16,aIq a 17,aIq a 23,hLq tV H 0 0 0,hLq tV H 1 0 0⟩,⟨aIq a 24⟩)⟩],T2,[(none,λp s=>let t1:=(L3 (gL tV p.a8 s.N2.toNat) (gL tV p.a8 p.is4.toNat) (gL tV p.a8 p.is3.toNat));let t2:=(q9 ⟨rt tV p.g9,t1.1.n.x,t1.1.n.y,t1.1.n.z,t1.1.b⟩);⟨.unk::.ptr 0 0 0 0::.unk::i p.is3::i p.is4::i s.N2::.ptr 3 0 0 0::b t1.2::.unk::i p.is9::i p.m9::ra 5 (i p.Ub5::i p.N1::ra 5 (i p.qd1::i s.N2::b (decide (s.N2<p.qd1))::i s.N2::.tup [.agg [i t1.1.n.x,i t1.1.n.y,i t1.1.n.z,i t1.1.b],b t1.2]::eL tV p.a8::i s.N2::.tptr [i (gL tV p.a8 s.N2.toNat).x,i (gL tV p.a8 s.N2.toNat).y,i (gL tV p.a8 s.N2.toNat).z]::.agg [i (gL tV p.a8 s.N2.toNat).x,i (gL tV p.a8 s.N2.toNat).y,i (gL tV p.a8 s.N2.toNat).z]::eL tV p.a8::i p.is4::.tptr [i (gL tV p.a8 p.is4.toNat).x,i (gL tV p.a8 p.is4.toNat).y,i (gL tV p.a8 p.is4.toNat).z]::.agg [i (gL tV p.a8 p.is4.toNat).x,i (gL tV p.a8 p.is4.toNat).y,i (gL tV p.a8 p.is4.toNat).z]::eL tV p.a8::i p.is3::.tptr [i (gL tV p.a8 p.is3.toNat).x,i (gL tV p.a8 p.is3.toNat).y,i (gL tV p.a8 p.is3.toNat).z]::.agg [i (gL tV p.a8 p.is3.toNat).x,i (gL tV p.a8 p.is3.toNat).y,i (gL tV p.a8 p.is3.toNat).z]::.tup [.agg [i t1.1.n.x,i t1.1.n.y,i t1.1.n.z,i t1.1.b],b t1.2]::.agg [i t1.1.n.x,i t1.1.n.y,i t1.1.n.z,i t1.1.b]::b t1.2::b t1.2::b true::.unk::.agg [i t1.1.n.x,i t1.1.n.y,i t1.1.n.z,i t1.1.b]::b false::b true::b true::.unk::u::u::u::u::b true::b true::ra 3 (i 1::.unk::.ptr 1 0 0 0::.ptr 2 0 0 0::ra 8 []))),[bq 0 1 [[eL tV p.a8]],bq 0 1 [[eL tV p.g9]],bq 0 1 [[b (!t2.bs0)]],bq 0 4 [[i t1.1.n.x,i t1.1.n.y,i t1.1.n.z,i t1.1.b]],bq 0 4 [[i t1.1.n.x,i t1.1.n.y,i t1.1.n.z,i t1.1.b]]]⟩),(some 4,λp s=>upq (qc1 p s) [(25,b (decide (s.N2<p.qd1)))])],qc1⟩
theorem Dd0:Qb2.OkM:=Lo.okMq [] .nil λp s=>(.ofq @Wa9)
structure ta6 where
 (is3 is9 m9 Ub5:Int)
structure O7 where
 N1:Int
 (a8 g9:List V3)
def qc2(p:ta6)(s:O7):St:=⟨.unk::.ptr 0 0 0 0::.unk::i p.is3::ra 5 (i p.is9::i p.m9::ra 5 (i p.Ub5::i s.N1::ra 42 (i 0::.unk::.ptr 1 0 0 0::.ptr 2 0 0 0::ra 8 []))),[bq 0 1 [[eL tV s.a8]],bq 0 1 [[eL tV s.g9]],bq 0 1 [[b false]]]⟩
def Xa0{α:Type}(k:O7->α)(e:Nat->α)(z:α)(p:ta6)(s:O7):α:=let t1:=(lp (T2 (⟨p.is3,s.N1,p.is9,p.m9,p.Ub5,s.N1,(↑(s.N1.toNat-0):Int),rt tV s.a8,rt tV s.g9⟩:ia2)) (⟨0⟩:L4));(sl (decide (s.N1<p.Ub5)) (sl (inB s.N1 ((List.length s.a8)+1)) (sl ((cnE tV s.a8)&&((cnE tV s.g9)&&true)) (sl (Nat.beq t1.1 1) (e 1) (sl (Nat.beq t1.1 2) (k ⟨W (s.N1+1),rt tV s.a8,rt tV s.g9⟩) z)) z) z) (e 2))
def aa5(p:ta6)(s:O7):Stp O7:=Xa0 .next .exit .fail p s
def Qb3:Lo ta6 O7:=⟨En wb4,0,nf9,[1,0,1,4,4,1,4,4,1,1,0,4,1,1,4,4],[1,3,9,10,16,17,60,62,63],.s .p (.s .p (.s (.b (.s .p (.s .p (.b (.u Qb2.lsM))))) .p)),[⟨sUq::sPq 0::sUq::sIq::ru2 5 (sIq::sIq::ru2 5 (sIq::sIq::ru2 42 (.s (.o (.lit .i64 0))::sUq::sPq 1::sPq 2::ru2 8 []))),[⟨0,1,true,some [[.c 3 (nL tV)]]⟩,⟨0,1,true,some [[.c 3 (nL tV)]]⟩,⟨0,1,true,some [[.o (.blit false)]]⟩],λa H=>(⟨aIq a 3,aIq a 9,aIq a 10,aIq a 16⟩,⟨aIq a 17,hLq tV H 0 0 0,hLq tV H 1 0 0⟩)⟩],aa5,[(none,λp s=>let t1:=(lp (T2 (⟨p.is3,s.N1,p.is9,p.m9,p.Ub5,s.N1,(↑(s.N1.toNat-0):Int),rt tV s.a8,rt tV s.g9⟩:ia2)) (⟨0⟩:L4));let t2:=(L3 (gL tV (rt tV s.a8) t1.2.N2.toNat) (gL tV (rt tV s.a8) s.N1.toNat) (gL tV (rt tV s.a8) p.is3.toNat));let t3:=(q9 ⟨rt tV (rt tV s.g9),t2.1.n.x,t2.1.n.y,t2.1.n.z,t2.1.b⟩);⟨.unk::.ptr 0 0 0 0::.unk::i p.is3::i s.N1::i t1.2.N2::.ptr 3 0 0 0::b t2.2::.unk::i p.is9::i p.m9::ra 5 (i p.Ub5::i s.N1::ra 5 (i (↑(s.N1.toNat-0):Int)::i t1.2.N2::b (decide (t1.2.N2<(↑(s.N1.toNat-0):Int)))::i t1.2.N2::.tup [.agg [i t2.1.n.x,i t2.1.n.y,i t2.1.n.z,i t2.1.b],b t2.2]::eL tV (rt tV s.a8)::i t1.2.N2::.tptr [i (gL tV (rt tV s.a8) t1.2.N2.toNat).x,i (gL tV (rt tV s.a8) t1.2.N2.toNat).y,i (gL tV (rt tV s.a8) t1.2.N2.toNat).z]::.agg [i (gL tV (rt tV s.a8) t1.2.N2.toNat).x,i (gL tV (rt tV s.a8) t1.2.N2.toNat).y,i (gL tV (rt tV s.a8) t1.2.N2.toNat).z]::eL tV (rt tV s.a8)::i s.N1::.tptr [i (gL tV (rt tV s.a8) s.N1.toNat).x,i (gL tV (rt tV s.a8) s.N1.toNat).y,i (gL tV (rt tV s.a8) s.N1.toNat).z]::.agg [i (gL tV (rt tV s.a8) s.N1.toNat).x,i (gL tV (rt tV s.a8) s.N1.toNat).y,i (gL tV (rt tV s.a8) s.N1.toNat).z]::eL tV (rt tV s.a8)::i p.is3::.tptr [i (gL tV (rt tV s.a8) p.is3.toNat).x,i (gL tV (rt tV s.a8) p.is3.toNat).y,i (gL tV (rt tV s.a8) p.is3.toNat).z]::.agg [i (gL tV (rt tV s.a8) p.is3.toNat).x,i (gL tV (rt tV s.a8) p.is3.toNat).y,i (gL tV (rt tV s.a8) p.is3.toNat).z]::.tup [.agg [i t2.1.n.x,i t2.1.n.y,i t2.1.n.z,i t2.1.b],b t2.2]::.agg [i t2.1.n.x,i t2.1.n.y,i t2.1.n.z,i t2.1.b]::b t2.2::b t2.2::b true::.unk::.agg [i t2.1.n.x,i t2.1.n.y,i t2.1.n.z,i t2.1.b]::b false::b true::b true::.unk::u::u::u::u::b true::b true::ra 3 (i 1::.unk::.ptr 1 0 0 0::.ptr 2 0 0 0::ra 8 []))),[bq 0 1 [[eL tV (rt tV s.a8)]],bq 0 1 [[eL tV (rt tV s.g9)]],bq 0 1 [[b (!t3.bs0)]],bq 0 4 [[i t2.1.n.x,i t2.1.n.y,i t2.1.n.z,i t2.1.b]],bq 0 4 [[i t2.1.n.x,i t2.1.n.y,i t2.1.n.z,i t2.1.b]]]⟩),(some 2,λp s=>upq (qc2 p s) [(18,b (decide (s.N1<p.Ub5)))])],qc2⟩
theorem Dd1:Qb3.OkM:=Lo.okMq [Qb2.prM] (.cons Dd0 .nil) λp s=>(.ofq @Xa0)
structure Y8 where
 m9:Int
 (a8 g9:List V3)
def qc3(p:L9)(s:Y8):St:=⟨.unk::.ptr 0 0 0 0::ra 7 (i p.is9::i s.m9::ra 49 (i 0::.unk::.ptr 1 0 0 0::.ptr 2 0 0 0::ra 8 [])),[bq 0 1 [[eL tV s.a8]],bq 0 1 [[eL tV s.g9]],bq 0 1 [[b false]]]⟩
def Xa1{α:Type}(k:Y8->α)(e:Nat->α)(z:α)(p:L9)(s:Y8):α:=let t1:=(lp (aa5 (⟨s.m9,p.is9,s.m9,(↑(s.m9.toNat-0):Int)⟩:ta6)) (⟨0,rt tV s.a8,rt tV s.g9⟩:O7));(sl (decide (s.m9<p.is9)) (sl (inB s.m9 ((List.length s.a8)+1)) (sl ((cnE tV s.a8)&&((cnE tV s.g9)&&true)) (sl (Nat.beq t1.1 1) (e 1) (sl (Nat.beq t1.1 2) (k ⟨W (s.m9+1),t1.2.a8,t1.2.g9⟩) z)) z) z) (e 2))
def xa0(p:L9)(s:Y8):Stp Y8:=Xa1 .next .exit .fail p s
def Qb4:Lo L9 Y8:=⟨En wb4,0,nf9,[1,0,1,4,4,1,4,4],[1,9,10,60,62,63],.s .p (.s .p (.s (.b (.s .p (.s .p (.b (.u Qb3.lsM))))) .p)),[⟨sUq::sPq 0::ru2 7 (sIq::sIq::ru2 49 (.s (.o (.lit .i64 0))::sUq::sPq 1::sPq 2::ru2 8 [])),[⟨0,1,true,some [[.c 3 (nL tV)]]⟩,⟨0,1,true,some [[.c 3 (nL tV)]]⟩,⟨0,1,true,some [[.o (.blit false)]]⟩],λa H=>(⟨aIq a 9⟩,⟨aIq a 10,hLq tV H 0 0 0,hLq tV H 1 0 0⟩)⟩],xa0,[(none,λp s=>let t1:=(lp (aa5 (⟨s.m9,p.is9,s.m9,(↑(s.m9.toNat-0):Int)⟩:ta6)) (⟨0,rt tV s.a8,rt tV s.g9⟩:O7));let t2:=(lp (T2 (⟨s.m9,t1.2.N1,p.is9,s.m9,(↑(s.m9.toNat-0):Int),t1.2.N1,(↑(t1.2.N1.toNat-0):Int),rt tV t1.2.a8,rt tV t1.2.g9⟩:ia2)) (⟨0⟩:L4));let t3:=(L3 (gL tV (rt tV t1.2.a8) t2.2.N2.toNat) (gL tV (rt tV t1.2.a8) t1.2.N1.toNat) (gL tV (rt tV t1.2.a8) s.m9.toNat));let t4:=(q9 ⟨rt tV (rt tV t1.2.g9),t3.1.n.x,t3.1.n.y,t3.1.n.z,t3.1.b⟩);⟨.unk::.ptr 0 0 0 0::.unk::i s.m9::i t1.2.N1::i t2.2.N2::.ptr 3 0 0 0::b t3.2::.unk::i p.is9::i s.m9::ra 5 (i (↑(s.m9.toNat-0):Int)::i t1.2.N1::ra 5 (i (↑(t1.2.N1.toNat-0):Int)::i t2.2.N2::b (decide (t2.2.N2<(↑(t1.2.N1.toNat-0):Int)))::i t2.2.N2::.tup [.agg [i t3.1.n.x,i t3.1.n.y,i t3.1.n.z,i t3.1.b],b t3.2]::eL tV (rt tV t1.2.a8)::i t2.2.N2::.tptr [i (gL tV (rt tV t1.2.a8) t2.2.N2.toNat).x,i (gL tV (rt tV t1.2.a8) t2.2.N2.toNat).y,i (gL tV (rt tV t1.2.a8) t2.2.N2.toNat).z]::.agg [i (gL tV (rt tV t1.2.a8) t2.2.N2.toNat).x,i (gL tV (rt tV t1.2.a8) t2.2.N2.toNat).y,i (gL tV (rt tV t1.2.a8) t2.2.N2.toNat).z]::eL tV (rt tV t1.2.a8)::i t1.2.N1::.tptr [i (gL tV (rt tV t1.2.a8) t1.2.N1.toNat).x,i (gL tV (rt tV t1.2.a8) t1.2.N1.toNat).y,i (gL tV (rt tV t1.2.a8) t1.2.N1.toNat).z]::.agg [i (gL tV (rt tV t1.2.a8) t1.2.N1.toNat).x,i (gL tV (rt tV t1.2.a8) t1.2.N1.toNat).y,i (gL tV (rt tV t1.2.a8) t1.2.N1.toNat).z]::eL tV (rt tV t1.2.a8)::i s.m9::.tptr [i (gL tV (rt tV t1.2.a8) s.m9.toNat).x,i (gL tV (rt tV t1.2.a8) s.m9.toNat).y,i (gL tV (rt tV t1.2.a8) s.m9.toNat).z]::.agg [i (gL tV (rt tV t1.2.a8) s.m9.toNat).x,i (gL tV (rt tV t1.2.a8) s.m9.toNat).y,i (gL tV (rt tV t1.2.a8) s.m9.toNat).z]::.tup [.agg [i t3.1.n.x,i t3.1.n.y,i t3.1.n.z,i t3.1.b],b t3.2]::.agg [i t3.1.n.x,i t3.1.n.y,i t3.1.n.z,i t3.1.b]::b t3.2::b t3.2::b true::.unk::.agg [i t3.1.n.x,i t3.1.n.y,i t3.1.n.z,i t3.1.b]::b false::b true::b true::.unk::u::u::u::u::b true::b true::ra 3 (i 1::.unk::.ptr 1 0 0 0::.ptr 2 0 0 0::ra 8 []))),[bq 0 1 [[eL tV (rt tV t1.2.a8)]],bq 0 1 [[eL tV (rt tV t1.2.g9)]],bq 0 1 [[b (!t4.bs0)]],bq 0 4 [[i t3.1.n.x,i t3.1.n.y,i t3.1.n.z,i t3.1.b]],bq 0 4 [[i t3.1.n.x,i t3.1.n.y,i t3.1.n.z,i t3.1.b]]]⟩),(some 0,λp s=>upq (qc3 p s) [(11,b (decide (s.m9<p.is9)))])],qc3⟩
theorem Dd2:Qb4.OkM:=Lo.okMq [Qb3.prM] (.cons Dd1 .nil) λp s=>(.ofq @Xa1)
def nb6(x:List V3):ROq:=let y1:=(↑(List.length x):Int);let t1:=(lp (xa0 (⟨y1⟩:L9)) (⟨0,rt tV x,rt tV x⟩:Y8));let t2:=(lp (aa5 (⟨t1.2.m9,y1,t1.2.m9,(↑(t1.2.m9.toNat-0):Int)⟩:ta6)) (⟨0,rt tV t1.2.a8,rt tV t1.2.g9⟩:O7));let y0:=(rt tV t2.2.a8);let t3:=(lp (T2 (⟨t1.2.m9,t2.2.N1,y1,t1.2.m9,(↑(t1.2.m9.toNat-0):Int),t2.2.N1,(↑(t2.2.N1.toNat-0):Int),y0,rt tV t2.2.g9⟩:ia2)) (⟨0⟩:L4));let t4:=(L3 (gL tV y0 t3.2.N2.toNat) (gL tV y0 t2.2.N1.toNat) (gL tV y0 t1.2.m9.toNat));let t5:=(q9 ⟨rt tV (rt tV t2.2.g9),t4.1.n.x,t4.1.n.y,t4.1.n.z,t4.1.b⟩);(sl ((cnE tV x)&&((cnE tV x)&&true)) (sl (Nat.beq t1.1 1) (some (b (!t5.bs0),[])) (sl (Nat.beq t1.1 2) (some (b true,[])) none)) none)
def Lb7(x:List V3):Bool:=G5 (one r1B) (nb6 x)
def Lb8(x:List V3):Bool:=okO (one r1B) (nb6 x)
def hd8:Sum:=G4 (Oa4 tV) (λx=>.guard (Lb8 x) (.ret ((one r1B).enc (Lb7 x),[])))
theorem ae5:e7 prog G 86 hd8:=kc5 (bd b86 Ld5) (one r1B) (o:=nb6) λx=>Ad7 (.s .p (.s (.s .p (.b (.i (.s .p (.b (.u Qb4.lsM)))))) .p)) [Qb4.prM] (.cons Dd2 .nil)
def Yc7:List (Nat×Sum):=[(65,db8)]
theorem Oc4:j8 prog G Yc7:=⟨lb4,trivial⟩
def rb3{α:Type}(kk:Pb9->α)(x:Pb8):α:=let y1:=(⟨x.pb4,x.pb5,x.pb6⟩:V3);let y0:=(⟨(⟨x.c9,x.d9,x.e8⟩:V3),x.m0⟩:Pln);let t1:=(sa0 y0 y1);(sl (sa1 y0 y1) (kk ⟨1,decide (t1>0)⟩) (kk ⟨0,false⟩))
def Xa2(x:Pb8):Pb9:=rb3 (λr=>r) x
def Wb3(x:Pb8)(r:Pb9):DT (a7×List b7):=(Da1 r.alt 1 (b r.bs0,[bq 0 4 [[i x.c9,i x.d9,i x.e8,i x.m0]]]) .fail)
def hc8:Sum:=Aa7 ⟨[.agg (kLq 3),sPq 0],[⟨0,4,true,some [kLq 4]⟩],λa H=>(⟨cIq a 0 0,cIq a 0 1,cIq a 0 2,hIq H 0 0 0,hIq H 0 0 1,hIq H 0 0 2,hIq H 0 0 3⟩,())⟩ (λx=>Wb3 x (Xa2 x))
theorem Yc8:e7 prog G 93 hc8:=s8 (enc:=λx=>⟨[.agg [i x.pb4,i x.pb5,i x.pb6],.ptr 0 0 0 0],[bq 0 4 [[i x.c9,i x.d9,i x.e8,i x.m0]]]⟩) (λa H=>by kernel_rfl) (bd b93 Oc4) λx=>ka3 (mEq @rb3 (λr=>(Wb3 x r).run) x)
def Sa8:List (Nat×Sum):=[(93,hc8)]
theorem Hb9:j8 prog G Sa8:=⟨Yc8,trivial⟩
def Ka3(p:M1)(s:fa7):St:=⟨eL tV p.d6::.fn 93 [.ptr 0 0 0 0]::ra 5 (i p.is7::i s.is8::ra 10 []),[bq 0 4 [[i p.c9,i p.d9,i p.e8,i p.m0]]]⟩
def R4{α:Type}(k:fa7->α)(e:Nat->α)(z:α)(p:M1)(s:fa7):α:=let y0:=(gL tV p.d6 s.is8.toNat);let t1:=(Xa2 ⟨y0.x,y0.y,y0.z,p.c9,p.d9,p.e8,p.m0⟩);(sl (decide (s.is8<p.is7)) (sl (inB s.is8 (List.length p.d6)) (sl (Nat.beq t1.alt 1) (sl t1.bs0 (e 1) (k ⟨W (s.is8+1)⟩)) z) z) (e 2))
def K0(p:M1)(s:fa7):Stp fa7:=R4 .next .exit .fail p s
def oa2:Lo M1 fa7:=⟨En Sa8,1,gd7,[1,0,1,4,4],[0,1,7,8],.p,[⟨sLq tV::.fn 93 [.o (.ptr 0 0 0 0)]::ru2 5 (sIq::sIq::ru2 10 []),[⟨0,4,true,some [kLq 4]⟩],λa H=>(⟨aLq tV a 0,aIq a 7,hIq H 0 0 0,hIq H 0 0 1,hIq H 0 0 2,hIq H 0 0 3⟩,⟨aIq a 8⟩)⟩],K0,[(none,λp s=>⟨[i s.is8],[bq 0 4 [[i p.c9,i p.d9,i p.e8,i p.m0]]]⟩),(some 0,λp s=>upq (Ka3 p s) [(9,b (decide (s.is8<p.is7)))])],Ka3⟩
theorem Cb5:oa2.Ok:=Lo.okq [] .nil λp s=>(.ofq @R4)
def xa3{α:Type}(kk:wa7->α)(x:wa6):α:=let t1:=(lp (K0 (⟨rt tV x.d6,(↑(List.length x.d6):Int),x.c9,x.d9,x.e8,x.m0⟩:M1)) (⟨0⟩:fa7));(sl ((cnE tV x.d6)&&true) (sl (Nat.beq t1.1 1) (kk ⟨1,t1.2.is8⟩) (sl (Nat.beq t1.1 2) (kk ⟨1,-1⟩) (kk ⟨0,0⟩))) (kk ⟨0,0⟩))
def ca0(x:wa6):wa7:=xa3 (λr=>r) x
def Sa9(x:wa6)(r:wa7):DT (a7×List b7):=(Da1 r.alt 1 (i r.is0,[bq 0 4 [[i x.c9,i x.d9,i x.e8,i x.m0]]]) .fail)
def Za6:Sum:=Aa7 ⟨[sLq tV,.fn 93 [.o (.ptr 0 0 0 0)]],[⟨0,4,true,some [kLq 4]⟩],λa H=>(⟨aLq tV a 0,hIq H 0 0 0,hIq H 0 0 1,hIq H 0 0 2,hIq H 0 0 3⟩,())⟩ (λx=>Sa9 x (ca0 x))
theorem Qb5:e7 prog G 109 Za6:=s8 (enc:=λx=>⟨[eL tV x.d6,.fn 93 [.ptr 0 0 0 0]],[bq 0 4 [[i x.c9,i x.d9,i x.e8,i x.m0]]]⟩) (λa H=>by kernel_rfl) (bd xe9 Hb9) λx=>O4 (.s .p (.s (.s .p (.b (.u oa2.ls))) .p)) [oa2.pr] (.cons Cb5 .nil) (mEq @xa3 (λr=>(Sa9 x r).run) x)
def wb5:List (Nat×Sum):=[(109,Za6)]
theorem rb4:j8 prog G wb5:=⟨Qb5,trivial⟩
def la3{α:Type}(kk:Pb9->α)(x:wa6):α:=let t1:=(ca0 ⟨rt tV x.d6,x.c9,x.d9,x.e8,x.m0⟩);(sl ((cnE tV x.d6)&&true) (sl (Nat.beq t1.alt 1) (kk ⟨1,decide (t1.is0>=0)⟩) (kk ⟨0,false⟩)) (kk ⟨0,false⟩))
def T3(x:wa6):Pb9:=la3 (λr=>r) x
def Ha3(x:wa6)(r:Pb9):DT (a7×List b7):=(Da1 r.alt 1 (b r.bs0,[bq 0 4 [[i x.c9,i x.d9,i x.e8,i x.m0]]]) .fail)
def Ka4:Sum:=Aa7 ⟨[sLq tV,.fn 93 [.o (.ptr 0 0 0 0)]],[⟨0,4,true,some [kLq 4]⟩],λa H=>(⟨aLq tV a 0,hIq H 0 0 0,hIq H 0 0 1,hIq H 0 0 2,hIq H 0 0 3⟩,())⟩ (λx=>Ha3 x (T3 x))
theorem wb6:e7 prog G 74 Ka4:=s8 (enc:=λx=>⟨[eL tV x.d6,.fn 93 [.ptr 0 0 0 0]],[bq 0 4 [[i x.c9,i x.d9,i x.e8,i x.m0]]]⟩) (λa H=>by kernel_rfl) (bd b74 rb4) λx=>ka3 (mEq @la3 (λr=>(Ha3 x r).run) x)
def Dd3:List (Nat×Sum):=[(74,Ka4)]
theorem kd7:j8 prog G Dd3:=⟨wb6,trivial⟩
def Ta0(x:List V3)(y:Pln):ROq:=let t1:=(T3 ⟨rt tV x,y.n.x,y.n.y,y.n.z,y.b⟩);(sl ((cnE tV x)&&true) (sl (Nat.beq t1.alt 1) (some (b t1.bs0,[])) none) none)
def ia3(x:List V3)(y:Pln):Bool:=G5 (one r1B) (Ta0 x y)
def ia4(x:List V3)(y:Pln):Bool:=okO (one r1B) (Ta0 x y)
def Bc5:Sum:=fa5 (Oa4 tV) (ia6 tP) (λx y=>.guard (ia4 x y) (.ret ((one r1B).enc (ia3 x y),[])))
theorem Dd4:e7 prog G 59 Bc5:=Lb0 (bd b59 kd7) (one r1B) (o:=Ta0)
def kd8:List (Nat×Sum):=[(62,Cb2)]
theorem Yc9:j8 prog G kd8:=⟨Lb5,trivial⟩
def Ka5(x:V3):ROq:=let t1:=(Ba8 x);(sl (Ba9 x) (some (b (!t1),[])) none)
def db9(x:V3):Bool:=G5 (one r1B) (Ka5 x)
def eb0(x:V3):Bool:=okO (one r1B) (Ka5 x)
def qc4:Sum:=G4 (ia6 tV) (λx=>.guard (eb0 x) (.ret ((one r1B).enc (db9 x),[])))
theorem kd9:e7 prog G 85 qc4:=Ja2 (bd b85 Yc9) (one r1B) (o:=Ka5)
def Ta1:List (Nat×Sum):=[(85,qc4)]
theorem Ib0:j8 prog G Ta1:=⟨kd9,trivial⟩
structure M3 where
 d6:List V3
 is7:Int
def Ka6(p:M3)(s:fa7):St:=⟨eL tV p.d6::.fn 85 []::ra 5 (i p.is7::i s.is8::ra 10 []),[]⟩
def R5{α:Type}(k:fa7->α)(e:Nat->α)(z:α)(p:M3)(s:fa7):α:=let t1:=(db9 (gL tV p.d6 s.is8.toNat));(sl (decide (s.is8<p.is7)) (sl (inB s.is8 (List.length p.d6)) (sl (eb0 (gL tV p.d6 s.is8.toNat)) (sl t1 (e 1) (k ⟨W (s.is8+1)⟩)) z) z) (e 2))
def K1(p:M3)(s:fa7):Stp fa7:=R5 .next .exit .fail p s
def oa3:Lo M3 fa7:=⟨En Ta1,0,gd7,[1,0,1,4,4],[0,1,7,8],.p,[⟨sLq tV::.s (.o (.fn 85))::ru2 5 (sIq::sIq::ru2 10 []),[],λa H=>(⟨aLq tV a 0,aIq a 7⟩,⟨aIq a 8⟩)⟩],K1,[(none,λp s=>⟨[i s.is8],[]⟩),(some 0,λp s=>upq (Ka6 p s) [(9,b (decide (s.is8<p.is7)))])],Ka6⟩
theorem Cb6:oa3.Ok:=Lo.okq [] .nil λp s=>(.ofq @R5)
def xa6{α:Type}(kk:wa7->α)(x:Sa3):α:=let t1:=(lp (K1 (⟨rt tV x.d6,(↑(List.length x.d6):Int)⟩:M3)) (⟨0⟩:fa7));(sl ((cnE tV x.d6)&&true) (sl (Nat.beq t1.1 1) (kk ⟨1,t1.2.is8⟩) (sl (Nat.beq t1.1 2) (kk ⟨1,-1⟩) (kk ⟨0,0⟩))) (kk ⟨0,0⟩))
def ca1(x:Sa3):wa7:=xa6 (λr=>r) x
def Ta2(x:Sa3)(r:wa7):DT (a7×List b7):=(Da1 r.alt 1 (i r.is0,[]) .fail)
def Za7:Sum:=Aa7 ⟨[sLq tV,.s (.o (.fn 85))],[],λa H=>(⟨aLq tV a 0⟩,())⟩ (λx=>Ta2 x (ca1 x))
theorem Qb6:e7 prog G 109 Za7:=s8 (enc:=λx=>⟨[eL tV x.d6,.fn 85 []],[]⟩) (λa H=>by kernel_rfl) (bd xe9 Ib0) λx=>O4 (.s .p (.s (.s .p (.b (.u oa3.ls))) .p)) [oa3.pr] (.cons Cb6 .nil) (mEq @xa6 (λr=>(Ta2 x r).run) x)
def wb7:List (Nat×Sum):=[(109,Za7)]
theorem rb5:j8 prog G wb7:=⟨Qb6,trivial⟩
def la6{α:Type}(kk:Pb9->α)(x:Sa3):α:=let t1:=(ca1 ⟨rt tV x.d6⟩);(sl ((cnE tV x.d6)&&true) (sl (Nat.beq t1.alt 1) (kk ⟨1,decide (t1.is0>=0)⟩) (kk ⟨0,false⟩)) (kk ⟨0,false⟩))
def T4(x:Sa3):Pb9:=la6 (λr=>r) x
def Ha4(x:Sa3)(r:Pb9):DT (a7×List b7):=(Da1 r.alt 1 (b r.bs0,[]) .fail)
def Ka7:Sum:=Aa7 ⟨[sLq tV,.s (.o (.fn 85))],[],λa H=>(⟨aLq tV a 0⟩,())⟩ (λx=>Ha4 x (T4 x))
theorem wb8:e7 prog G 74 Ka7:=s8 (enc:=λx=>⟨[eL tV x.d6,.fn 85 []],[]⟩) (λa H=>by kernel_rfl) (bd b74 rb5) λx=>ka3 (mEq @la6 (λr=>(Ha4 x r).run) x)
def Ld6:List (Nat×Sum):=[(74,Ka7),(86,hd8)]
theorem Dd5:j8 prog G Ld6:=⟨wb8,ae5,trivial⟩
def eb1(x:List V3):ROq:=let t1:=(T4 ⟨rt tV x⟩);let t2:=(Lb7 (rt tV x));(sl (decide ((↑(List.length x):Int)>48)) (some (i 2,[])) (sl ((cnE tV x)&&true) (sl (Nat.beq t1.alt 1) (sl t1.bs0 (some (i 3,[])) (sl (okE tV x) (sl (Lb8 (rt tV x)) (sl t2 (some (i 11,[])) (some (i 0,[]))) none) none)) none) none))
def Ca1(x:List V3):Int:=G5 (one r1I) (eb1 x)
def Ca2(x:List V3):Bool:=okO (one r1I) (eb1 x)
def eb2:Sum:=G4 (Oa4 tV) (λx=>.guard (Ca2 x) (.ret ((one r1I).enc (Ca1 x),[])))
theorem lb6:e7 prog G 56 eb2:=Ja2 (bd b56 Dd5) (one r1I) (o:=eb1)
def Xa3(x:Int):Bool:=(x != x)
def hc9:Sum:=G4 cI (λx=>.ret ((one r1B).enc (Xa3 x),[]))
theorem Zc0:e7 prog G 156 hc9:=Fe2 (bd Zf9 Ra4)
def Hc5:List (Nat×Sum):=[(156,hc9)]
theorem yc7:j8 prog G Hc5:=⟨Zc0,trivial⟩
def sa2(x:Int)(y:Int):ROq:=let t1:=(Xa3 x);let t2:=(Xa3 y);(sl t1 (sl t2 (some (i 0,[])) (some (i (-1),[]))) (sl t2 (some (i 1,[])) (sl (decide (x<y)) (some (i (-1),[])) (sl (decide (x>y)) (some (i 1,[])) (some (i 0,[]))))))
def ca2(x:Int)(y:Int):Int:=G5 (one r1I) (sa2 x y)
def ca3(x:Int)(y:Int):Bool:=okO (one r1I) (sa2 x y)
def Lb9:Sum:=fa5 cI cI (λx y=>.guard (ca3 x y) (.ret ((one r1I).enc (ca2 x y),[])))
theorem Hc6:e7 prog G 121 Lb9:=Lb0 (bd Yf6 yc7) (one r1I) (o:=sa2)
structure Ka8 where
 Nb7:List Int
 is7:Int
def ic0(p:Ka8)(s:fa7):St:=⟨ra 3 (i 0::.unk::.unk::eL tI p.Nb7::i p.is7::i s.is8::ra 9 []),[]⟩
def Wb4{α:Type}(k:fa7->α)(e:Nat->α)(z:α)(p:Ka8)(s:fa7):α:=(sl (decide (s.is8<p.is7)) (sl (inB s.is8 (List.length p.Nb7)) (sl ((gL tI p.Nb7 s.is8.toNat) != 0) (e 1) (k ⟨W (s.is8+1)⟩)) z) (e 2))
def ea5(p:Ka8)(s:fa7):Stp fa7:=Wb4 .next .exit .fail p s
def Cb7:Lo Ka8 fa7:=⟨En tbN,0,wf7,[1,1,0,1,4,4],[3,6,7,8],.p,[⟨ru2 3 (.s (.o (.lit .i64 0))::sUq::sUq::sLq tI::sIq::sIq::ru2 9 []),[],λa H=>(⟨aLq tI a 6,aIq a 7⟩,⟨aIq a 8⟩)⟩],ea5,[(none,λp s=>⟨[i (gL tI p.Nb7 s.is8.toNat)],[]⟩),(some 0,λp s=>upq (ic0 p s) [(9,b (decide (s.is8<p.is7)))])],ic0⟩
theorem ld0:Cb7.Ok:=Lo.okq [] .nil λp s=>(.ofq @Wb4)
def eb3(x:List Int):ROq:=let t1:=(lp (ea5 (⟨rt tI x,(↑(List.length x):Int)⟩:Ka8)) (⟨0⟩:fa7));(sl ((cnE tI x)&&true) (sl (Nat.beq t1.1 1) (some (i (gL tI (rt tI x) t1.2.is8.toNat),[])) (sl (Nat.beq t1.1 2) (some (i 0,[])) none)) none)
def wb9(x:List Int):Int:=G5 (one r1I) (eb3 x)
def xb0(x:List Int):Bool:=okO (one r1I) (eb3 x)
def Oc5:Sum:=G4 (Oa4 tI) (λx=>.guard (xb0 x) (.ret ((one r1I).enc (wb9 x),[])))
theorem Ld7:e7 prog G 120 Oc5:=kc5 (bd Yf5 Ra4) (one r1I) (o:=eb3) λx=>O4 (.s .p (.s .p (.s (.s .p (.b (.u Cb7.ls))) .p))) [Cb7.pr] (.cons ld0 .nil)
def ld1:List (Nat×Sum):=[(121,Lb9),(120,Oc5)]
theorem Zc1:j8 prog G ld1:=⟨Hc6,Ld7,trivial⟩
def Ka9(x:V3)(y:V3):ROq:=let t1:=(ca2 x.x y.x);let t2:=(ca2 x.y y.y);let t3:=(ca2 x.z y.z);let t4:=(wb9 [t1,t2,t3]);(sl (ca3 x.x y.x) (sl (ca3 x.y y.y) (sl (ca3 x.z y.z) (sl (xb0 [t1,t2,t3]) (some (i t4,[])) none) none) none) none)
def eb4(x:V3)(y:V3):Int:=G5 (one r1I) (Ka9 x y)
def eb5(x:V3)(y:V3):Bool:=okO (one r1I) (Ka9 x y)
def Cb8:Sum:=fa5 (ia6 tV) (ia6 tV) (λx y=>.guard (eb5 x y) (.ret ((one r1I).enc (eb4 x y),[])))
theorem ld2:e7 prog G 88 Cb8:=Lb0 (bd b88 Zc1) (one r1I) (o:=Ka9)
end Go.Ev.Ce
namespace Go.Ev.L
open Go Go.Ev
theorem of0(n:Int):W n=(n+9223372036854775808) % 18446744073709551616-9223372036854775808:=IntKind.wrap_i64 n
theorem eb6{n:Int}(h1:-9223372036854775808<=n)(h2:n<=9223372036854775807):W n=n:=by rw[of0];omega
theorem af1(n:Int):∃k,W n=n+18446744073709551616*k:=⟨-((n+9223372036854775808) / 18446744073709551616),by rw[of0];omega⟩
theorem Zc2(n k:Int):W (n+18446744073709551616*k)=W n:=by rw[of0,of0];omega
theorem Hc7(a b:Int):W (W a+b)=W (a+b):=by
 obtain⟨k,hk⟩:=af1 a;rw[hk,show a+18446744073709551616*k+b=a+b+18446744073709551616*k by omega,Zc2]
theorem Zc3(a b:Int):W (a+W b)=W (a+b):=by rw[Int.add_comm,Hc7,Int.add_comm]
theorem af2(a b:Int):W (W a-b)=W (a-b):=by
 obtain⟨k,hk⟩:=af1 a;rw[hk,show a+18446744073709551616*k-b=a-b+18446744073709551616*k by omega,Zc2]
theorem af3(a b:Int):W (a-W b)=W (a-b):=by
 obtain⟨k,hk⟩:=af1 b;rw[hk,show a-(b+18446744073709551616*k)=a-b+18446744073709551616*(-k) by omega,Zc2]
theorem m8{j n:Nat}(h:j<n)(hn:n<=4611686018427387904):W ((j:Int)+1)=((j+1:Nat):Int):=by
 rw[eb6 (by omega) (by omega)];omega
theorem La0{j n:Nat}(h:j<n):decide ((j:Int)<(n:Int))=true:=decide_eq_true (by omega)
theorem sa3{j n:Nat}(h:¬ j<n):decide ((j:Int)<(n:Int))=false:=decide_eq_false (by omega)
theorem f7{j n:Nat}(h:j<n):inB (j:Int) n=true:=by
 show Nat.blt j n=true;rw[Qcf];exact h
theorem bt{c:Bool}(h:c=true){α:Type}(t e:α):sl c t e=t:=by rw[h];rfl
theorem bf{c:Bool}(h:c=false){α:Type}(t e:α):sl c t e=e:=by rw[h];rfl
theorem xb1{n:Nat}(h:n<=1000000000000):Nat.ble (n*32) room=true:=by
 rw[Nat.ble_eq];unfold room;omega
theorem af4{σ:Type}{step:σ->Stp σ}{I:Nat->σ->Prop}{Q:Nat->σ->Prop}(h:∀m s,I m s->(∃t,step s=.exit t/\Q t s)\/∃s' m',m=m'+1/\step s=.next s'/\I m' s') :
  ∀(m n:Nat) (s:σ),m<=n->I m s->Q (lp0 step n s).1 (lp0 step n s).2
 |m,n,s,hn,hi=>by
  rcases h m s hi with⟨t,h1,h2⟩|⟨s',m',rfl,h1,h2⟩
  ·rw[yd0 h1];exact h2
  ·cases n with
   |zero=>omega
   |succ n =>
    rw[ie3 h1];exact af4 h m' n s' (by omega) h2
theorem Hc8{σ:Type}{step:σ->Stp σ}{I:Nat->σ->Prop}{Q:Nat->σ->Prop}(h:∀m s,I m s->(∃t,step s=.exit t/\Q t s)\/∃s' m',m=m'+1/\step s=.next s'/\I m' s')
  (m:Nat) (s:σ) (hm:m<=18446744073709551615) (hi:I m s):Q (lp step s).1 (lp step s).2:=by
 rw[Ue5];exact af4 h m rounds s (by unfold rounds;omega) hi
section
variable{σ τ α:Type}{step:σ->Stp σ}
theorem of1{mk:Nat->τ->σ}{f:τ->α->τ}{fin:Nat}(t:Ty α)(l:List α)(I:Nat->τ->Prop)(hl:l.length<=1000000000)
  (h:∀j a,j<l.length->I j a->step (mk j a)=.next (mk (j+1) (f a (gL t l j)))/\I (j+1) (f a (gL t l j)))
  (hf:∀a,I l.length a->step (mk l.length a)=.exit fin) (j0:Nat) (hj:j0<=l.length) (a:τ) (hi:I j0 a) :
  lp step (mk j0 a)=(fin,mk l.length ((l.drop j0).foldl f a))/\I l.length ((l.drop j0).foldl f a):=by
 have key:=Hc8 (step:=step) (I:=λm s=>∃j b,m=l.length-j/\j<=l.length/\s=mk j b/\I j b/\(l.drop j).foldl f b=(l.drop j0).foldl f a)
  (Q:=λu s=>u=fin/\s=mk l.length ((l.drop j0).foldl f a)/\I l.length ((l.drop j0).foldl f a)) (λm s ⟨j,b,hm,hj,hs,hb,he⟩=>by
   subst hs;by_cases hlt:j<l.length
   ·obtain⟨h1,h2⟩:=h j b hlt hb;refine .inr ⟨_,l.length-(j+1),by omega,h1,j+1,_,rfl,by omega,rfl,h2,?_⟩
    rw[<- he,Qha hlt,List.foldl_cons];simp[gL,Qda,Qaa hlt]
   ·have:j=l.length:=by omega
    subst this;have he:b=(l.drop j0).foldl f a:=by rw[<- he];simp
    subst he;exact .inl ⟨fin,hf _ hb,rfl,rfl,hb⟩) (l.length-j0) (mk j0 a) (by omega) ⟨j0,a,rfl,hj,rfl,hi,rfl⟩
 exact⟨by rw[<- key.2.1,<- key.1],key.2.2⟩
theorem qc5{mk:Nat->σ}{c:α->Bool}{u fin:Nat}(t:Ty α)(l:List α)(hl:l.length<=1000000000)
  (h:∀j,j<l.length->step (mk j)=sl (c (gL t l j)) (.exit u) (.next (mk (j+1)))) (hf:step (mk l.length)=.exit fin) (j0:Nat) (hj:j0<=l.length) :
  (lp step (mk j0)).1=if (l.drop j0).any c then u else fin :=
 Hc8 (step:=step) (I:=λm s=>∃j,m=l.length-j/\j<=l.length/\s=mk j/\(l.drop j).any c=(l.drop j0).any c)
  (Q:=λv _=>v=if (l.drop j0).any c then u else fin) (λm s ⟨j,hm,hj,hs,he⟩=>by
   subst hs;by_cases hlt:j<l.length
   ·have h1:=h j hlt;have e:gL t l j=l[j]:=by simp[gL,Qda,Qaa hlt]
    have e2:(l.drop j).any c=(c l[j]||(l.drop (j+1)).any c):=by rw[Qha hlt,List.any_cons]
    rw[e] at h1;cases hc:c l[j] with
    |true =>
     rw[hc] at h1;refine .inl ⟨u,h1,?_⟩;rw[<- he,e2,hc];rfl
    |false =>
     rw[hc] at h1;refine .inr ⟨_,l.length-(j+1),by omega,h1,j+1,rfl,by omega,rfl,?_⟩
     rw[<- he,e2,hc];rfl
   ·have:j=l.length:=by omega
    subst this;refine .inl ⟨fin,hf,?_⟩;rw[<- he];simp) (l.length-j0) (mk j0) (by omega) ⟨j0,rfl,hj,rfl,rfl⟩
theorem ga1{mk:Nat->σ}{c:α->Bool}{u fin:Nat}(t:Ty α)(l:List α)(hl:l.length<=1000000000)
  (h:∀j,j<l.length->step (mk j)=sl (c (gL t l j)) (.exit u) (.next (mk (j+1)))) (hf:step (mk l.length)=.exit fin) (j0:Nat) (hj:j0<=l.length) :
  lp step (mk j0)=if (l.drop j0).any c then (u,mk (j0+(l.drop j0).findIdx c)) else (fin,mk l.length):=by
 have key:=Hc8 (step:=step) (I:=λm s=>∃j,m=l.length-j/\j<=l.length/\j0<=j/\s=mk j/\(l.drop j).any c=(l.drop j0).any c/\j+(l.drop j).findIdx c=j0+(l.drop j0).findIdx c)
  (Q:=λv s=>(v,s)=if (l.drop j0).any c then (u,mk (j0+(l.drop j0).findIdx c)) else (fin,mk l.length)) (λm s ⟨j,hm,hj,hj0,hs,he,hi⟩=>by
   subst hs;by_cases hlt:j<l.length
   ·have h1:=h j hlt;have e:gL t l j=l[j]:=by simp[gL,Qda,Qaa hlt]
    have e2:(l.drop j).any c=(c l[j]||(l.drop (j+1)).any c):=by rw[Qha hlt,List.any_cons]
    have e3:(l.drop j).findIdx c=if c l[j] then 0 else (l.drop (j+1)).findIdx c+1:=by rw[Qha hlt,List.findIdx_cons];cases c l[j]<;>rfl
    rw[e] at h1;cases hc:c l[j] with
    |true =>
     rw[hc] at h1;refine .inl ⟨u,h1,?_⟩;rw[<- he,e2,hc,<- hi,e3,hc];rfl
    |false =>
     rw[hc] at h1;refine .inr ⟨_,l.length-(j+1),by omega,h1,j+1,rfl,by omega,by omega,rfl,?_,?_⟩
     ·rw[<- he,e2,hc];rfl
     ·rw[<- hi,e3,hc];simp only[Qhc,if_false];omega
   ·have:j=l.length:=by omega
    subst this;refine .inl ⟨fin,hf,?_⟩;rw[<- he];simp) (l.length-j0) (mk j0) (by omega) ⟨j0,rfl,hj,Qaf _,rfl,rfl,rfl⟩
 exact key
end
theorem Ga7{α:Type}(t:Ty α){l:List α}{j:Nat}(h:j<l.length):gL t l j∈l:=by
 simp[gL,Qda,Qaa h]
theorem Mb0{α:Type}(t:Ty α){l:List α}{j:Nat}(h:j<l.length):gL t l j=l[j]:=by
 simp[gL,Qda,Qaa h]
def euF:Nat->Int->Int->Int
 |0,g,_=>g
 |k+1,g,n=>if n=0 then g else euF k n (Int.tmod g n)
def eu(g n:Int):Int:=euF (n.natAbs+1) g n
theorem zb9{g n:Int}(h:n≠0):(Int.tmod g n).natAbs<n.natAbs:=by
 rw[Int.natAbs_tmod];exact Nat.mod_lt _ (by omega)
theorem me1:∀(k m:Nat) {g n:Int},n.natAbs<k->n.natAbs<m->euF k g n=euF m g n
 |0,_,_,_,h,_=>by omega
 |_+1,0,_,_,_,h=>by omega
 |k+1,m+1,g,n,h1,h2=>by
  unfold euF;by_cases h:n=0
  ·rw[if_pos h,if_pos h]
  ·rw[if_neg h,if_neg h]
   have:=zb9 (g:=g) h
   exact me1 k m (by omega) (by omega)
theorem Oc6(g:Int):eu g 0=g:=by simp[eu,euF]
theorem ae6{g n:Int}(h:n≠0):eu g n=eu n (Int.tmod g n):=by
 have:=zb9 (g:=g) h
 unfold eu
 conv=>lhs;unfold euF
 rw[if_neg h];exact me1 _ _ (by omega) (by omega)
theorem Df1:∀(k:Nat) (g n:Int),n.natAbs<=k->(eu g n).natAbs=Int.gcd g n:=by
 intro k
 induction k with
 |zero =>
  intro g n h
  have:n=0:=by omega
  subst this;rw[Oc6];simp
 |succ k ih =>
  intro g n h;by_cases h0:n=0
  ·subst h0;rw[Oc6];simp
  ·have:=zb9 (g:=g) h0
   rw[ae6 h0,ih n (Int.tmod g n) (by omega)]
   unfold Int.gcd;rw[Int.natAbs_tmod,Nat.gcd_comm g.natAbs,Nat.gcd_comm n.natAbs,<- Nat.gcd_rec]
theorem Df2(g n:Int):(eu g n).natAbs=Int.gcd g n:=Df1 _ g n (Qaf _)
theorem Oe7:∀(k:Nat) (g n:Int),n.natAbs<=k->0<=g->0<=n->0<=eu g n:=by
 intro k
 induction k with
 |zero =>
  intro g n h hg _
  have:n=0:=by omega
  subst this;rw[Oc6];exact hg
 |succ k ih =>
  intro g n h hg hn;by_cases h0:n=0
  ·subst h0;rw[Oc6];exact hg
  ·have:=zb9 (g:=g) h0
   rw[ae6 h0];exact ih n _ (by omega) hn (Int.tmod_nonneg _ hg)
theorem Df3{g n:Int}(hg:0<=g)(hn:0<=n):eu g n=(Int.gcd g n:Int):=by
 have h1:=Oe7 _ g n (Qaf _) hg hn;have h2:=Df2 g n;omega
section
variable{σ:Type}{step:σ->Stp σ}{mk:Int->Int->σ}
theorem hd9(h:∀g n,0<n->step (mk g n)=.next (mk n (Int.tmod g n)))(h0:∀g,step (mk g 0)=.exit 1)(g n:Int)(hg:0<=g)(h1:0<=n)(hn:n<=9223372036854775808):lp step (mk g n)=(1,mk (eu g n) 0):=by
 have:=Hc8 (step:=step) (I:=λm s=>∃a c,s=mk a c/\c.natAbs<=m/\0<=a/\0<=c/\eu a c=eu g n) (Q:=λu s=>(u,s)=(1,mk (eu g n) 0)) (λm s ⟨a,c,hs,hm,ha,hc0,he⟩=>by
  subst hs;by_cases hc:c=0
  ·subst hc;rw[Oc6] at he;subst he;exact .inl ⟨1,h0 _,rfl⟩
  ·have ht:=zb9 (g:=a) hc;exact .inr ⟨_,m-1,by omega,h a c (by omega),c,_,rfl,by omega,hc0,Int.tmod_nonneg _ ha,by rw[<- he,ae6 hc]⟩) n.natAbs (mk g n) (by omega) ⟨g,n,rfl,Qaf _,hg,h1,rfl⟩
 exact this
end
theorem mb{a c A C:Int}(h1:-A<=a)(h2:a<=A)(h3:-C<=c)(h4:c<=C):-(A*C)<=a*c/\a*c<=A*C:=by
 have hA:a.natAbs<=A.natAbs:=by omega
 have hC:c.natAbs<=C.natAbs:=by omega
 have h5:=Nat.mul_le_mul hA hC;rw[<- Int.natAbs_mul,<- Int.natAbs_mul] at h5;have h6:0<=A*C:=Int.mul_nonneg (by omega) (by omega)
 omega
end Go.Ev.L
namespace Go.Proofs
open Go.Shelf
set_option maxRecDepth 100000 in
def Ce.sortLayV_ren:Go.Shelf.Ren:=⟨fun | 6=>87 | 15=>95 | 14=>119 | 28=>132 | 29=>133 | 20=>148 | 21=>149 | 22=>150 | 23=>151 | 24=>152 | 25=>153 | 26=>154 | 27=>155 | 46=>168 | 47=>158 | 48=>159 | 49=>169 | 50=>170 | 57=>176 | n=>n,fun | 22=>25 | 24=>52 | 25=>113 | 3=>3 | 39=>119 | 0=>0 | 53=>147 | 55=>149 | 4=>4 | 46=>141 | 45=>140 | 50=>38 | 5=>5 | 9=>9 | 66=>162 | 70=>166 | 76=>171 | 77=>172 | n=>n,fun | n=>n⟩
set_option maxRecDepth 100000 in
theorem Ce.sortLayV:Go.Proofs.SlLaysF0.n6 Tryz.prog Ce.sortLayV_ren:={
 mixed:=by kernel_rfl
 f6:=⟨Tryz.f87.name,by decide,Tryz.func87.trans (congrArg some (by kernel_rfl))⟩
 f14:=⟨Tryz.f119.name,by decide,Tryz.func119.trans (congrArg some (by kernel_rfl))⟩
 f15:=Tryz.func95.trans (congrArg some (by kernel_rfl))
 f20:=⟨Tryz.f148.name,by decide,Tryz.func148.trans (congrArg some (by kernel_rfl))⟩
 f21:=⟨Tryz.f149.name,by decide,Tryz.func149.trans (congrArg some (by kernel_rfl))⟩
 f22:=⟨Tryz.f150.name,by decide,Tryz.func150.trans (congrArg some (by kernel_rfl))⟩
 f23:=⟨Tryz.f151.name,by decide,Tryz.func151.trans (congrArg some (by kernel_rfl))⟩
 f24:=⟨Tryz.f152.name,by decide,Tryz.func152.trans (congrArg some (by kernel_rfl))⟩
 f25:=⟨Tryz.f153.name,by decide,Tryz.func153.trans (congrArg some (by kernel_rfl))⟩
 f26:=⟨Tryz.f154.name,by decide,Tryz.func154.trans (congrArg some (by kernel_rfl))⟩
 f27:=⟨Tryz.f155.name,by decide,Tryz.func155.trans (congrArg some (by kernel_rfl))⟩
 f28:=Tryz.func132.trans (congrArg some (by kernel_rfl))
 f29:=Tryz.func133.trans (congrArg some (by kernel_rfl))
 f46:=⟨Tryz.f168.name,by decide,Tryz.func168.trans (congrArg some (by kernel_rfl))⟩
 f47:=Tryz.func158.trans (congrArg some (by kernel_rfl))
 f48:=Tryz.func159.trans (congrArg some (by kernel_rfl))
 f49:=⟨Tryz.f169.name,by decide,Tryz.func169.trans (congrArg some (by kernel_rfl))⟩
 f50:=⟨Tryz.f170.name,by decide,Tryz.func170.trans (congrArg some (by kernel_rfl))⟩
 f57:=⟨Tryz.f176.name,by decide,Tryz.func176.trans (congrArg some (by kernel_rfl))⟩
 t0:=Tryz.underlying0
 a0:=Tryz.isAgg0
 z0:=Tryz.sizeOf0
 v0:=Tryz.zeroValue0
 t3:=Tryz.underlying3
 a3:=Tryz.isAgg3
 z3:=Tryz.sizeOf3
 v3:=Tryz.zeroValue3
 t4:=Tryz.underlying4
 a4:=Tryz.isAgg4
 z4:=Tryz.sizeOf4
 v4:=Tryz.zeroValue4
 t5:=Tryz.underlying5
 a5:=Tryz.isAgg5
 z5:=Tryz.sizeOf5
 v5:=Tryz.zeroValue5
 t9:=Tryz.underlying9
 a9:=Tryz.isAgg9
 z9:=Tryz.sizeOf9
 v9:=Tryz.zeroValue9
 t22:=Tryz.underlying25
 a22:=Tryz.isAgg25
 z22:=Tryz.sizeOf25
 v22:=Tryz.zeroValue25
 t25:=Tryz.underlying113
 a25:=Tryz.isAgg113
 z25:=Tryz.sizeOf113
 v25:=Tryz.zeroValue113
 t39:=Tryz.underlying119
 a39:=Tryz.isAgg119
 z39:=Tryz.sizeOf119
 v39:=Tryz.zeroValue119
 t45:=Tryz.underlying140
 a45:=Tryz.isAgg140
 z45:=Tryz.sizeOf140
 v45:=Tryz.zeroValue140
 t46:=Tryz.underlying141
 a46:=Tryz.isAgg141
 z46:=Tryz.sizeOf141
 v46:=Tryz.zeroValue141
 t50:=Tryz.underlying38
 a50:=Tryz.isAgg38
 z50:=Tryz.sizeOf38
 v50:=Tryz.zeroValue38
 t53:=Tryz.underlying147
 a53:=Tryz.isAgg147
 z53:=Tryz.sizeOf147
 v53:=Tryz.zeroValue147
 t55:=Tryz.underlying149
 a55:=Tryz.isAgg149
 z55:=Tryz.sizeOf149
 v55:=Tryz.zeroValue149
 t66:=Tryz.underlying162
 a66:=Tryz.isAgg162
 z66:=Tryz.sizeOf162
 v66:=Tryz.zeroValue162
 t70:=Tryz.underlying166
 a70:=Tryz.isAgg166
 z70:=Tryz.sizeOf166
 v70:=Tryz.zeroValue166
 t76:=Tryz.underlying171
 a76:=Tryz.isAgg171
 z76:=Tryz.sizeOf171
 v76:=Tryz.zeroValue171
 t77:=Tryz.underlying172
 a77:=Tryz.isAgg172
 z77:=Tryz.sizeOf172
 v77:=Tryz.zeroValue172 }
end Go.Proofs
namespace Go.Ev.Ce
open Go Go.Ev Go.Ev.L Go.Proofs Go.Sort
theorem Fe5(x y:Int):sa2 x y=some (i (bb2 x y),[]):=by
 unfold sa2 Xa3 bb2;simp only[bne_self_eq_false,Gc6,decide_eq_true_eq,Qhc,if_false]
 split<;>(try split)<;>rfl
theorem Df4(x y:Int):ca2 x y=bb2 x y:=by unfold ca2;rw[Fe5];rfl
theorem Df5(x y:Int):ca3 x y=true:=by unfold ca3;rw[Fe5];rfl
def orI(a c d:Int):Int:=if a=0 then if c=0 then d else c else a
theorem of2(a c d:Int):((lp (ea5 ⟨[a,c,d],3⟩) ⟨0⟩).1=1/\gL tI [a,c,d] (lp (ea5 ⟨[a,c,d],3⟩) ⟨0⟩).2.is8.toNat=orI a c d)\/((lp (ea5 ⟨[a,c,d],3⟩) ⟨0⟩).1=2/\orI a c d=0):=by
 have g0:gL tI [a,c,d] 0=a:=rfl;have g1:gL tI [a,c,d] 1=c:=rfl;have g2:gL tI [a,c,d] 2=d:=rfl;refine Hc8 (step:=ea5 ⟨[a,c,d],3⟩) (I:=λm s=>(m=3/\s=⟨0⟩)\/(m=2/\s=⟨1⟩/\a=0)\/(m=1/\s=⟨2⟩/\a=0/\c=0)\/(m=0/\s=⟨3⟩/\a=0/\c=0/\d=0))
  (Q:=λt s=>(t=1/\gL tI [a,c,d] s.is8.toNat=orI a c d)\/(t=2/\orI a c d=0)) (λm s hi=>?_) 3 ⟨0⟩ (by omega) (.inl ⟨rfl,rfl⟩)
 rcases hi with⟨rfl,rfl⟩|⟨rfl,rfl,ha⟩|⟨rfl,rfl,ha,hc⟩|⟨rfl,rfl,ha,hc,hd⟩
 ·by_cases h:a=0
  ·exact .inr ⟨⟨1⟩,2,rfl,by subst h;rfl,.inr (.inl ⟨rfl,rfl,h⟩)⟩
  ·refine .inl ⟨1,?_,.inl ⟨rfl,by unfold orI;rw[if_neg h];rfl⟩⟩
   show sl (a != 0) (Stp.exit 1) (Stp.next (⟨W (0+1)⟩:fa7))=_;rw[bt (by simpa using h)]
 ·by_cases h:c=0
  ·exact .inr ⟨⟨2⟩,1,rfl,by subst h;rfl,.inr (.inr (.inl ⟨rfl,rfl,ha,h⟩))⟩
  ·refine .inl ⟨1,?_,.inl ⟨rfl,by unfold orI;rw[if_pos ha,if_neg h];rfl⟩⟩
   show sl (c != 0) (Stp.exit 1) (Stp.next (⟨W (1+1)⟩:fa7))=_;rw[bt (by simpa using h)]
 ·by_cases h:d=0
  ·exact .inr ⟨⟨3⟩,0,rfl,by subst h;rfl,.inr (.inr (.inr ⟨rfl,rfl,ha,hc,h⟩))⟩
  ·refine .inl ⟨1,?_,.inl ⟨rfl,by unfold orI;rw[if_pos ha,if_pos hc];rfl⟩⟩
   show sl (d != 0) (Stp.exit 1) (Stp.next (⟨W (2+1)⟩:fa7))=_;rw[bt (by simpa using h)]
 ·exact .inl ⟨2,rfl,.inr ⟨rfl,by unfold orI;rw[if_pos ha,if_pos hc];exact hd⟩⟩
theorem xf2(a c d:Int):eb3 [a,c,d]=some (i (orI a c d),[]):=by
 have h:=of2 a c d;unfold eb3;simp only[g8,i5];rw[show ((([a,c,d]:List Int).length:Nat):Int)=3 from rfl]
 generalize lp (ea5 ⟨[a,c,d],3⟩) ⟨0⟩=r at *
 rcases h with⟨h1,h2⟩|⟨h1,h2⟩
 ·rw[h1,h2];rfl
 ·rw[h1,h2];rfl
theorem ag5(a c d:Int):wb9 [a,c,d]=orI a c d:=by unfold wb9;rw[xf2];rfl
theorem ag6(a c d:Int):xb0 [a,c,d]=true:=by unfold xb0;rw[xf2];rfl
def Ya6(x y:V3):Int:=orI (bb2 x.x y.x) (bb2 x.y y.y) (bb2 x.z y.z)
def LtV(x y:V3):Prop:=x.x<y.x\/x.x=y.x/\(x.y<y.y\/x.y=y.y/\x.z<y.z)
instance(x y:V3):Decidable (LtV x y):=by unfold LtV;exact inferInstance
theorem rd6(x y:V3):Ya6 x y<0↔LtV x y:=by
 have h1:=dc5 x.x y.x;have h2:=Nc5 x.x y.x;have h3:=dc5 x.y y.y;have h4:=Nc5 x.y y.y;have h5:=dc5 x.z y.z;unfold Ya6 orI LtV;split
 ·split<;>omega
 ·omega
theorem Za8(x y:V3):ltOf Ya6 x y=decide (LtV x y):=by
 unfold ltOf;rw[decide_eq_decide];exact rd6 x y
theorem Pf3:SWO (ltOf Ya6) where
 irrefl x:=by rw[Za8];simp[LtV]
 trans x y z h1 h2:=by rw[Za8,decide_eq_true_eq] at *;unfold LtV at *;omega
 ntrans x y z h1 h2:=by rw[Za8,decide_eq_false_iff_not] at *;unfold LtV at *;omega
theorem ag7(x y:V3)(h1:ltOf Ya6 x y=false)(h2:ltOf Ya6 y x=false):x=y:=by
 rw[Za8,decide_eq_false_iff_not] at *
 unfold LtV at *
 obtain⟨a,b,c⟩:=x;obtain⟨a',b',c'⟩:=y
 simp only at *
 have:a=a'/\b=b'/\c=c':=by omega
 obtain⟨rfl,rfl,rfl⟩:=this;rfl
theorem id3(x y:V3):Ka9 x y=some (i (Ya6 x y),[]):=by
 unfold Ka9 Ya6;simp only[Df4,Df5,ag5,ag6,f0]
theorem Df6(x y:V3):eb4 x y=Ya6 x y:=by unfold eb4;rw[id3];rfl
theorem Df7(x y:V3):eb5 x y=true:=by unfold eb5;rw[id3];rfl
theorem Df8(x y:V3):(Cb8 [.agg (tV.row x),.agg (tV.row y)] []).run=some (i (Ya6 x y),[]):=by
 have:(Cb8 [.agg (tV.row x),.agg (tV.row y)] []).run=sel (eb5 x y) (some (i (eb4 x y),[])) none:=by kernel_rfl
 rw[this,Df7,Df6]
def af5(p:V3):List Value:=[.int .i64 p.x,.int .i64 p.y,.int .i64 p.z]
instance:Inhabited V3:=⟨⟨0,0,0⟩⟩
def ic1(l:List V3):List V3:=l.mergeSort λx y=>!ltOf Ya6 y x
theorem Sd2(l:List V3):(ic1 l).length=l.length:=Qhb l
def Ga8:Sum:=Ee0 tV 88 52 ic1
theorem Oe8:Ce.sortLayV_ren.f 6=87:=by kernel_rfl
theorem Dd6:Ce.sortLayV_ren.t 24=52:=by kernel_rfl
set_option maxRecDepth 100000 in
theorem eb7:e7 prog G 87 Ga8:=by
 refine Ee1 (enc:=af5) (cf:=Ya6) ⟨_,Tryz.func87,by kernel_rfl,of_decide_eq_true (by kernel_rfl)⟩ (by decide) (λ_=>rfl) (λr h=>ib7 (n:=3) h) (λx v hv=>?_) Sd2
  (λblk off size w=>De9 ld2 Df8 (λ_=>rfl) (λ_=>rfl) _ _ _ _ _) (λblk cap d w hcl hH hb hs=>?_)
 ·simp[af5] at hv
  rcases hv with rfl|rfl|rfl<;>rfl
 ·have eg:∀args w,(callFunc 88 args).run Tryz.prog w=.ok (.enter 88 args) w:=enters_of Tryz.func88 (by kernel_rfl) rfl
  have:=AnyQ.slices_SortFunc Ce.sortLayV 3 (by rw[Dd6];exact Tryz.isAgg52) (by rw[Dd6];exact Tryz.sizeOf52) af5 (λ_=>rfl) (λx v hv=>by simp[af5] at hv;rcases hv with rfl | rfl | rfl<;>rfl) Ya6 Pf3 88 #[] blk 0 cap d w eg (hcl 0 d.size) hH hb hs
  rw[Oe8] at this;refine this.mono λe w' ⟨h1,d',n,os,h2,h3,h4⟩=>⟨h1,n,os,?_⟩
  have h5:=sorted_unique_holds Pf3 ag7 d d' h2 h3;rw[h4];show _=sortWorldK af5 3 w blk 0 n (d.toList.mergeSort λx y=>!ltOf Ya6 y x).toArray os
  rw[<- h5]
end Go.Ev.Ce
namespace Go.Ev.Ce
open Go Go.Ev Go.Ev.L Go.Proofs
set_option maxRecDepth 100000
structure Ya7 where
 (alt ns0:Nat)
 eh0:List (List a7)
def Ya8{α:Type}(kk:Ya7->α)(x:V3×List V3):α:=let y0:=(List.range (List.length x.2+1));(sl (Nat.beq 0 0&&Nat.ble ((0+(len (l6 (λk=>(tV).row (gL tV (x.1::x.2) k)) y0)))*24) room) (kk ⟨1,(0+(len (l6 (λk=>(tV).row (gL tV (x.1::x.2) k)) y0))),(app [] (l6 (λk=>(tV).row (gL tV (x.1::x.2) k)) y0))⟩) (kk ⟨0,0,[]⟩))
def la7(x:V3×List V3):Ya7:=Ya8 (λr=>r) x
def ub9(r:Ya7):DT (a7×List b7):=(Da1 r.alt 1 (.sl 0 0 r.ns0 0,[bq 52 3 r.eh0]) .fail)
def Ya9:Sum:=G4 (ie7 tV) (λx=>ub9 (la7 x))
theorem vb0:e7 prog G 47 Ya9:=vc9 (bd b47 Ra4) λx=>ka3 (mEq @Ya8 (λr=>(ub9 r).run) x)
structure La1 where
 ns0:Nat
 eh0:List (List a7)
structure F6 where
 (ns0 os4 ns4:Nat)
structure o9 where
 (is3 is5:Int)
 eh0:List (List a7)
def Za9(p:F6)(s:o9):St:=⟨.sl 0 0 p.ns0 0::.unk::.unk::i s.is3::.sl 0 p.os4 p.ns4 0::i s.is5::ra 55 [],[bq 52 3 s.eh0]⟩
def Y9{α:Type}(k:o9->α)(e:Nat->α)(z:α)(p:F6)(s:o9):α:=let y2:=(p.os4+s.is5.toNat);let y1:=(rdR tV s.eh0 (p.os4+(W (s.is5-1)).toNat));let y0:=(rdR tV s.eh0 y2);(sl (decide (s.is5<(↑p.ns4:Int))) (sl (inB s.is5 p.ns4) (sl (ldR tV s.eh0 y2) (sl (inB (W (s.is5-1)) p.ns4) (sl (ldR tV s.eh0 (p.os4+(W (s.is5-1)).toNat)) (sl (!((y0.x==y1.x)&&((y0.y==y1.y)&&((y0.z==y1.z)&&true)))) (sl (inB s.is5 p.ns4) (sl (ldR tV s.eh0 y2) (sl (inB s.is3 p.ns0) (sl ((Nat.blt (0+s.is3.toNat) (len s.eh0))&&(Nat.ble (0+3) (len (j9 s.eh0 (0+s.is3.toNat))))) (k ⟨W (s.is3+1),W (s.is5+1),setAt s.eh0 (0+s.is3.toNat) (va3 (j9 s.eh0 (0+s.is3.toNat)) 0 [i y0.x,i y0.y,i y0.z])⟩) z) z) z) z) (k ⟨s.is3,W (s.is5+1),s.eh0⟩)) z) z) z) z) (e 1))
def r5(p:F6)(s:o9):Stp o9:=Y9 .next .exit .fail p s
def Ca3:Lo F6 o9:=⟨En tbN,1,Cf9,[1,1,0,1,4,4,1,0,4,1,2,1,0,1,4,4],[0,3,4,5],.p,[⟨.s (.o (.sl 0 0 (some 0) none))::sUq::sUq::sIq::.s (.o (.sl 0 0 none none))::sIq::ru2 55 [],[⟨52,3,true,none⟩],λa H=>(⟨slN (slT a 0),slO (slT a 4),slN (slT a 4)⟩,⟨aIq a 3,aIq a 5,elT H 0⟩)⟩],r5,[(some 2,λp s=>upq (Za9 p s) [(29,i s.is5),(30,.sl 0 p.os4 p.ns4 0),(31,i (↑p.ns4:Int)),(32,b (decide (s.is5<(↑p.ns4:Int))))])],Za9⟩
theorem Wb5:Ca3.Ok:=Lo.okq [] .nil λp s=>(.ofq @Y9)
def ab0(p:La1)(s:db3):St:=⟨.sl 0 0 p.ns0 0::.unk::.unk::i s.is3::ra 57 [],[bq 52 3 p.eh0]⟩
def Z0{α:Type}(k:db3->α)(e:Nat->α)(z:α)(p:La1)(s:db3):α:=let y1:=(rdR tV p.eh0 (0+s.is3.toNat));let y0:=(rdR tV p.eh0 (0+(W (s.is3-1)).toNat));let t1:=(lp (r5 (⟨p.ns0,0+s.is3.toNat,p.ns0-s.is3.toNat⟩:F6)) (⟨s.is3,1,p.eh0⟩:o9));(sl (decide (s.is3<(↑p.ns0:Int))) (sl (inB s.is3 p.ns0) (sl (ldR tV p.eh0 (0+s.is3.toNat)) (sl (inB (W (s.is3-1)) p.ns0) (sl (ldR tV p.eh0 (0+(W (s.is3-1)).toNat)) (sl ((y1.x==y0.x)&&((y1.y==y0.y)&&((y1.z==y0.z)&&true))) (sl (inB s.is3 (p.ns0+1)) (sl (Nat.beq t1.1 1) (sl (inB t1.2.is3 (p.ns0+1)) (sl (inB t1.2.is3 (p.ns0+1)) (e 1) z) z) z) z) (k ⟨W (s.is3+1)⟩)) z) z) z) z) (e 2))
def Q0(p:La1)(s:db3):Stp db3:=Z0 .next .exit .fail p s
def Ca4:Lo La1 db3:=⟨En tbN,1,Cf9,[1,1,0,1,4,4],[0,3],.s .p (.s (.b (.s .p (.c (.s .p (.s (.s .p (.b (.u Ca3.ls))) .p)) .p))) .p),[⟨.s (.o (.sl 0 0 (some 0) none))::sUq::sUq::sIq::ru2 57 [],[⟨52,3,true,none⟩],λa H=>(⟨slN (slT a 0),elT H 0⟩,⟨aIq a 3⟩)⟩],Q0,[(none,λp s=>let t1:=(lp (r5 (⟨p.ns0,0+s.is3.toNat,p.ns0-s.is3.toNat⟩:F6)) (⟨s.is3,1,p.eh0⟩:o9));⟨[.sl 0 0 (t1.2.is3.toNat-0) 0],[bq 52 3 (app (E7 t1.2.eh0 (0+t1.2.is3.toNat)) (app (List.replicate (p.ns0-t1.2.is3.toNat) [i 0,i 0,i 0]) (i9 t1.2.eh0 ((0+t1.2.is3.toNat)+(p.ns0-t1.2.is3.toNat)))))]⟩),(some 0,λp s=>upq (ab0 p s) [(10,i s.is3),(11,.sl 0 0 p.ns0 0),(12,i (↑p.ns0:Int)),(13,b (decide (s.is3<(↑p.ns0:Int))))])],ab0⟩
theorem Wb6:Ca4.Ok:=Lo.okq [Ca3.pr] (.cons Wb5 .nil) λp s=>(.ofq @Z0)
def La3{α:Type}(kk:Ya7->α)(x:La1):α:=let t1:=(lp (Q0 (⟨x.ns0,x.eh0⟩:La1)) (⟨1⟩:db3));let t2:=(lp (r5 (⟨x.ns0,0+t1.2.is3.toNat,x.ns0-t1.2.is3.toNat⟩:F6)) (⟨t1.2.is3,1,x.eh0⟩:o9));(sl (decide ((↑x.ns0:Int)<2)) (kk ⟨1,x.ns0,x.eh0⟩) (sl (Nat.beq t1.1 1) (kk ⟨1,t2.2.is3.toNat-0,app (E7 t2.2.eh0 (0+t2.2.is3.toNat)) (app (List.replicate (x.ns0-t2.2.is3.toNat) [i 0,i 0,i 0]) (i9 t2.2.eh0 ((0+t2.2.is3.toNat)+(x.ns0-t2.2.is3.toNat))))⟩) (sl (Nat.beq t1.1 2) (kk ⟨1,x.ns0,x.eh0⟩) (kk ⟨0,0,[]⟩))))
def Q1(x:La1):Ya7:=La3 (λr=>r) x
def hb5(x:La1)(r:Ya7):DT (a7×List b7):=(Da1 r.alt 1 (.sl 0 0 r.ns0 0,[bq 52 3 r.eh0]) .fail)
def La4:Sum:=Aa7 ⟨[.s (.o (.sl 0 0 (some 0) none))],[⟨52,3,true,none⟩],λa H=>(⟨slN (slT a 0),elT H 0⟩,())⟩ (λx=>hb5 x (Q1 x))
theorem hb6:e7 prog G 89 La4:=s8 (enc:=λx=>⟨[.sl 0 0 x.ns0 0],[bq 52 3 x.eh0]⟩) (λa H=>by kernel_rfl) (bd b89 Ra4) λx=>O4 (.s .p (.s .p (.s (.s .p (.b (.u Ca4.ls))) .p))) [Ca4.pr] (.cons Wb6 .nil) (mEq @La3 (λr=>(hb5 x r).run) x)
def Zc4:List (Nat×Sum):=[(47,Ya9),(87,Ga8),(89,La4)]
theorem Oc7:j8 prog G Zc4:=⟨vb0,eb7,hb6,trivial⟩
def Da7(x:V3×List V3):ROq:=let t1:=(la7 (hC tV (λk=>(tV).row (gL tV (x.1::x.2) k)),tC tV (List.length x.2) (λk=>(tV).row (gL tV (x.1::x.2) k))));let t2:=(Q1 ⟨t1.ns0,app (bL tV (ic1 (slR tV t1.eh0 0 t1.ns0))) (i9 t1.eh0 t1.ns0)⟩);(sl (okL tV (List.length x.2+1) (λk=>(tV).row (gL tV (x.1::x.2) k))) (sl (Nat.beq t1.alt 1) (sl (Bool.and (Nat.ble t1.ns0 room) (Bool.and (Nat.ble t1.ns0 (len t1.eh0)) (okS tV t1.eh0 0 t1.ns0))) (sl (Nat.beq t2.alt 1) (some (.sl 0 0 t2.ns0 0,[bq 52 3 t2.eh0])) none) none) none) none)
def rb6(x:V3×List V3):List V3:=G5 (one (r1L tV)) (Da7 x)
def rb7(x:V3×List V3):Bool:=okO (one (r1L tV)) (Da7 x)
def ic2:Sum:=G4 (ie7 tV) (λx=>.guard (rb7 x) (.ret ((one (r1L tV)).enc (rb6 x),[])))
theorem Zc5:e7 prog G 57 ic2:=Ja2 (bd b57 Oc7) (one (r1L tV)) (o:=Da7)
def lb7:List (Nat×Sum):=[(56,eb2),(57,ic2),(91,qb9),(92,Oc1),(59,Bc5),(60,Za4),(58,wa9)]
theorem Dd7:j8 prog G lb7:=⟨lb6,Zc5,Wb2,Ld1,Dd4,Ob9,Da6,trivial⟩
structure D7 where
 ph:Nat
 N2:Int
 eh4:List (List a7)
 E5:Nat
 eh5:List (List a7)
def Wb7(p:ia2)(s:D7):St:=⟨.unk::.ptr 0 0 0 0::.unk::i p.is3::i p.is4::ra 4 (i p.is9::i p.m9::ra 5 (i p.Ub5::i p.N1::ra 5 (i p.qd1::i s.N2::ra 35 (i 0::.unk::.ptr 1 0 0 0::nlq::i 0::.unk::.ptr 2 0 0 0::.ptr 3 0 0 0::ra 28 [])))),[bq 0 1 [[eL tV p.a8]],bq 0 1 [[eL tV p.g9]],bq 0 0 [[.ptr 4 0 0 0]],bq 0 0 [[nlq]],bq 93 0 s.eh4]⟩
def Wb8(p:ia2)(s:D7):St:=⟨.unk::.ptr 0 0 0 0::.unk::i p.is3::i p.is4::ra 4 (i p.is9::i p.m9::ra 5 (i p.Ub5::i p.N1::ra 5 (i p.qd1::i s.N2::ra 35 (i 0::.unk::.ptr 1 0 0 0::nlq::i 0::.unk::.ptr 2 0 0 0::.ptr 3 0 0 0::ra 28 [])))),[bq 0 1 [[eL tV p.a8]],bq 0 1 [[eL tV p.g9]],bq 0 0 [[.ptr 4 0 0 0]],bq 0 0 [[.sl 5 0 s.E5 0]],bq 93 0 s.eh4,bq 57 4 s.eh5]⟩
def ld3(p:ia2)(s:D7):St:=(sel (Nat.beq s.ph 1) (Wb8 p s) (Wb7 p s))
def ia7{α:Type}(k:D7->α)(e:Nat->α)(z:α)(p:ia2)(s:D7):α:=let y7:=(List.length p.a8);let y6:=(okE tV p.g9);let y5:=(rt tV p.g9);let y3:=(W (s.N2+1));let t1:=(L3 (gL tV p.a8 s.N2.toNat) (gL tV p.a8 p.is4.toNat) (gL tV p.a8 p.is3.toNat));let y0:=(qb1 [(0,.int .i64),(1,.int .i64),(2,.int .i64),(3,.int .i64)] [i t1.1.n.x,i t1.1.n.y,i t1.1.n.z,i t1.1.b] [i t1.1.n.x,i t1.1.n.y,i t1.1.n.z,i t1.1.b,b true] s.eh4);let t2:=(Oa8 t1.1);let y8:=(ia4 y5 t2);let y4:=(Ub6 4 [(0,.int .i64),(1,.int .i64),(2,.int .i64),(3,.int .i64)] [i t2.n.x,i t2.n.y,i t2.n.z,i t2.b] y0);let y2:=(qb1 [(0,.int .i64),(1,.int .i64),(2,.int .i64),(3,.int .i64)] [i t2.n.x,i t2.n.y,i t2.n.z,i t2.b] [i t2.n.x,i t2.n.y,i t2.n.z,i t2.b,b true] s.eh4);let y1:=(qb1 [(0,.int .i64),(1,.int .i64),(2,.int .i64),(3,.int .i64)] [i t2.n.x,i t2.n.y,i t2.n.z,i t2.b] [i t2.n.x,i t2.n.y,i t2.n.z,i t2.b,b true] y0);let t3:=(ia3 y5 t2);let t4:=(ia3 y5 t1.1);(sl (decide (s.N2<p.qd1)) (sl (inB s.N2 y7) (sl (inB p.is4 y7) (sl (inB p.is3 y7) (sl (qa7 (gL tV p.a8 s.N2.toNat) (gL tV p.a8 p.is4.toNat) (gL tV p.a8 p.is3.toNat)) (sl t1.2 (sl t1.2 (sl (Ub6 4 [(0,.int .i64),(1,.int .i64),(2,.int .i64),(3,.int .i64)] [i t1.1.n.x,i t1.1.n.y,i t1.1.n.z,i t1.1.b] s.eh4) (sl (Ub6 4 [(0,.int .i64),(1,.int .i64),(2,.int .i64),(3,.int .i64)] [i t2.n.x,i t2.n.y,i t2.n.z,i t2.b] s.eh4) (k ⟨0,y3,s.eh4,0,[]⟩) (sl y6 (sl y8 (sl (!t3) (k ⟨1,y3,y2,1,[[i t2.n.x,i t2.n.y,i t2.n.z,i t2.b]]⟩) (k ⟨0,y3,y2,0,[]⟩)) z) z)) (sl y6 (sl (ia4 y5 t1.1) (sl (!t4) (sl y4 (k ⟨1,y3,y0,1,[[i t1.1.n.x,i t1.1.n.y,i t1.1.n.z,i t1.1.b]]⟩) (sl y6 (sl y8 (sl (!t3) (k ⟨1,y3,y1,2,[[i t1.1.n.x,i t1.1.n.y,i t1.1.n.z,i t1.1.b],[i t2.n.x,i t2.n.y,i t2.n.z,i t2.b]]⟩) (k ⟨1,y3,y1,1,[[i t1.1.n.x,i t1.1.n.y,i t1.1.n.z,i t1.1.b]]⟩)) z) z)) (sl y4 (k ⟨0,y3,y0,0,[]⟩) (sl y6 (sl y8 (sl (!t3) (k ⟨1,y3,y1,1,[[i t2.n.x,i t2.n.y,i t2.n.z,i t2.b]]⟩) (k ⟨0,y3,y1,0,[]⟩)) z) z))) z) z)) (k ⟨0,y3,s.eh4,0,[]⟩)) (sl t1.2 z (k ⟨0,y3,s.eh4,0,[]⟩))) z) z) z) z) (e 1))
def ia8{α:Type}(k:D7->α)(e:Nat->α)(z:α)(p:ia2)(s:D7):α:=let y9:=(List.length p.a8);let y8:=(okE tV p.g9);let y6:=(rt tV p.g9);let y4:=(W (s.N2+1));let t1:=(L3 (gL tV p.a8 s.N2.toNat) (gL tV p.a8 p.is4.toNat) (gL tV p.a8 p.is3.toNat));let y2:=(app s.eh5 [[i t1.1.n.x,i t1.1.n.y,i t1.1.n.z,i t1.1.b]]);let y0:=(qb1 [(0,.int .i64),(1,.int .i64),(2,.int .i64),(3,.int .i64)] [i t1.1.n.x,i t1.1.n.y,i t1.1.n.z,i t1.1.b] [i t1.1.n.x,i t1.1.n.y,i t1.1.n.z,i t1.1.b,b true] s.eh4);let t2:=(Oa8 t1.1);let y10:=(ia4 y6 t2);let y7:=(app s.eh5 [[i t2.n.x,i t2.n.y,i t2.n.z,i t2.b]]);let y5:=(Ub6 4 [(0,.int .i64),(1,.int .i64),(2,.int .i64),(3,.int .i64)] [i t2.n.x,i t2.n.y,i t2.n.z,i t2.b] y0);let y3:=(qb1 [(0,.int .i64),(1,.int .i64),(2,.int .i64),(3,.int .i64)] [i t2.n.x,i t2.n.y,i t2.n.z,i t2.b] [i t2.n.x,i t2.n.y,i t2.n.z,i t2.b,b true] s.eh4);let y1:=(qb1 [(0,.int .i64),(1,.int .i64),(2,.int .i64),(3,.int .i64)] [i t2.n.x,i t2.n.y,i t2.n.z,i t2.b] [i t2.n.x,i t2.n.y,i t2.n.z,i t2.b,b true] y0);let t3:=(ia3 y6 t2);let t4:=(ia3 y6 t1.1);let a0:=(Nat.beq s.E5 (len s.eh5)&&Nat.ble ((s.E5+1)*32) room);(sl (decide (s.N2<p.qd1)) (sl (inB s.N2 y9) (sl (inB p.is4 y9) (sl (inB p.is3 y9) (sl (qa7 (gL tV p.a8 s.N2.toNat) (gL tV p.a8 p.is4.toNat) (gL tV p.a8 p.is3.toNat)) (sl t1.2 (sl t1.2 (sl (Ub6 4 [(0,.int .i64),(1,.int .i64),(2,.int .i64),(3,.int .i64)] [i t1.1.n.x,i t1.1.n.y,i t1.1.n.z,i t1.1.b] s.eh4) (sl (Ub6 4 [(0,.int .i64),(1,.int .i64),(2,.int .i64),(3,.int .i64)] [i t2.n.x,i t2.n.y,i t2.n.z,i t2.b] s.eh4) (k ⟨1,y4,s.eh4,s.E5,s.eh5⟩) (sl y8 (sl y10 (sl (!t3) (sl a0 (k ⟨1,y4,y3,s.E5+1,y7⟩) z) (k ⟨1,y4,y3,s.E5,s.eh5⟩)) z) z)) (sl y8 (sl (ia4 y6 t1.1) (sl (!t4) (sl a0 (sl y5 (k ⟨1,y4,y0,s.E5+1,y2⟩) (sl y8 (sl y10 (sl (!t3) (sl (Nat.beq (s.E5+1) (len y2)&&Nat.ble (((s.E5+1)+1)*32) room) (k ⟨1,y4,y1,(s.E5+1)+1,app y2 [[i t2.n.x,i t2.n.y,i t2.n.z,i t2.b]]⟩) z) (k ⟨1,y4,y1,s.E5+1,y2⟩)) z) z)) z) (sl y5 (k ⟨1,y4,y0,s.E5,s.eh5⟩) (sl y8 (sl y10 (sl (!t3) (sl a0 (k ⟨1,y4,y1,s.E5+1,y7⟩) z) (k ⟨1,y4,y1,s.E5,s.eh5⟩)) z) z))) z) z)) (k ⟨1,y4,s.eh4,s.E5,s.eh5⟩)) (sl t1.2 z (k ⟨1,y4,s.eh4,s.E5,s.eh5⟩))) z) z) z) z) (e 2))
def V9(p:ia2)(s:D7):Stp D7:=(sel (Nat.beq s.ph 1) (ia8 .next .exit .fail p s) (ia7 .next .exit .fail p s))
def Cb9:Lo ia2 D7:=⟨En lb7,0,nf7,[1,1,1,1,1,0,1,4,4,1,4,4,1,1,0,4,1,1,4,4,1,1,0,4,1,1,4,4],[1,3,4,9,10,16,17,23,24,60,62,63,64,66,67],.p,[⟨sUq::sPq 0::sUq::sIq::sIq::ru2 4 (sIq::sIq::ru2 5 (sIq::sIq::ru2 5 (sIq::sIq::ru2 35 (.s (.o (.lit .i64 0))::sUq::sPq 1::.s (.o .nil)::.s (.o (.lit .i64 0))::sUq::sPq 2::sPq 3::ru2 28 [])))),[⟨0,1,true,some [[.c 3 (nL tV)]]⟩,⟨0,1,true,some [[.c 3 (nL tV)]]⟩,⟨0,0,true,some [[.o (.ptr 4 0 0 0)]]⟩,⟨0,0,true,some [[.o .nil]]⟩,⟨93,0,true,none⟩],λa H=>(⟨aIq a 3,aIq a 4,aIq a 9,aIq a 10,aIq a 16,aIq a 17,aIq a 23,hLq tV H 0 0 0,hLq tV H 1 0 0⟩,⟨0,aIq a 24,elT H 4,0,[]⟩)⟩,⟨sUq::sPq 0::sUq::sIq::sIq::ru2 4 (sIq::sIq::ru2 5 (sIq::sIq::ru2 5 (sIq::sIq::ru2 35 (.s (.o (.lit .i64 0))::sUq::sPq 1::.s (.o .nil)::.s (.o (.lit .i64 0))::sUq::sPq 2::sPq 3::ru2 28 [])))),[⟨0,1,true,some [[.c 3 (nL tV)]]⟩,⟨0,1,true,some [[.c 3 (nL tV)]]⟩,⟨0,0,true,some [[.o (.ptr 4 0 0 0)]]⟩,⟨0,0,true,some [[.o (.sl 5 0 (some 0) none)]]⟩,⟨93,0,true,none⟩,⟨57,4,true,none⟩],λa H=>(⟨aIq a 3,aIq a 4,aIq a 9,aIq a 10,aIq a 16,aIq a 17,aIq a 23,hLq tV H 0 0 0,hLq tV H 1 0 0⟩,⟨1,aIq a 24,elT H 4,slN (slT (rwT (elT H 3) 0) 0),elT H 5⟩)⟩],V9,[(some 4,λp s=>upq (Wb7 p s) [(25,b (decide (s.N2<p.qd1)))]),(some 4,λp s=>upq (Wb8 p s) [(25,b (decide (s.N2<p.qd1)))])],ld3⟩
theorem ld4:Cb9.OkM:=Lo.okMq [] .nil λp s=>(.sel (Nat.beq s.ph 1) (.ofq @ia8) (.ofq @ia7))
structure D0 where
 ph:Nat
 N1:Int
 (a8 g9:List V3)
 eh4:List (List a7)
 E5:Nat
 eh5:List (List a7)
def Wb9(p:ta6)(s:D0):St:=⟨.unk::.ptr 0 0 0 0::.unk::i p.is3::ra 5 (i p.is9::i p.m9::ra 5 (i p.Ub5::i s.N1::ra 42 (i 0::.unk::.ptr 1 0 0 0::nlq::i 0::.unk::.ptr 2 0 0 0::.ptr 3 0 0 0::ra 28 []))),[bq 0 1 [[eL tV s.a8]],bq 0 1 [[eL tV s.g9]],bq 0 0 [[.ptr 4 0 0 0]],bq 0 0 [[nlq]],bq 93 0 s.eh4]⟩
def Xb0(p:ta6)(s:D0):St:=⟨.unk::.ptr 0 0 0 0::.unk::i p.is3::ra 5 (i p.is9::i p.m9::ra 5 (i p.Ub5::i s.N1::ra 42 (i 0::.unk::.ptr 1 0 0 0::nlq::i 0::.unk::.ptr 2 0 0 0::.ptr 3 0 0 0::ra 28 []))),[bq 0 1 [[eL tV s.a8]],bq 0 1 [[eL tV s.g9]],bq 0 0 [[.ptr 4 0 0 0]],bq 0 0 [[.sl 5 0 s.E5 0]],bq 93 0 s.eh4,bq 57 4 s.eh5]⟩
def ld5(p:ta6)(s:D0):St:=(sel (Nat.beq s.ph 1) (Xb0 p s) (Wb9 p s))
def ia9{α:Type}(k:D0->α)(e:Nat->α)(z:α)(p:ta6)(s:D0):α:=let y1:=(rt tV s.g9);let y0:=(rt tV s.a8);let t1:=(lp (V9 (⟨p.is3,s.N1,p.is9,p.m9,p.Ub5,s.N1,(↑(s.N1.toNat-0):Int),y0,y1⟩:ia2)) (⟨0,0,s.eh4,0,[]⟩:D7));(sl (decide (s.N1<p.Ub5)) (sl (inB s.N1 ((List.length s.a8)+1)) (sl ((cnE tV s.a8)&&((cnE tV s.g9)&&true)) (sl (Nat.beq t1.1 1) (k ⟨0,W (s.N1+1),y0,y1,t1.2.eh4,0,[]⟩) (sl (Nat.beq t1.1 2) (k ⟨1,W (s.N1+1),y0,y1,t1.2.eh4,t1.2.E5,t1.2.eh5⟩) z)) z) z) (e 1))
def ja0{α:Type}(k:D0->α)(e:Nat->α)(z:α)(p:ta6)(s:D0):α:=let y1:=(rt tV s.g9);let y0:=(rt tV s.a8);let t1:=(lp (V9 (⟨p.is3,s.N1,p.is9,p.m9,p.Ub5,s.N1,(↑(s.N1.toNat-0):Int),y0,y1⟩:ia2)) (⟨1,0,s.eh4,s.E5,s.eh5⟩:D7));(sl (decide (s.N1<p.Ub5)) (sl (inB s.N1 ((List.length s.a8)+1)) (sl ((cnE tV s.a8)&&((cnE tV s.g9)&&true)) (sl (Nat.beq t1.1 1) (k ⟨0,W (s.N1+1),y0,y1,t1.2.eh4,0,[]⟩) (sl (Nat.beq t1.1 2) (k ⟨1,W (s.N1+1),y0,y1,t1.2.eh4,t1.2.E5,t1.2.eh5⟩) z)) z) z) (e 2))
def ea6(p:ta6)(s:D0):Stp D0:=(sel (Nat.beq s.ph 1) (ja0 .next .exit .fail p s) (ia9 .next .exit .fail p s))
def Db0:Lo ta6 D0:=⟨En lb7,0,nf7,[1,1,1,1,1,0,1,4,4,1,4,4,1,1,0,4,1,1,4,4],[1,3,9,10,16,17,60,62,63,64,66,67],.s .p (.s .p (.s (.b (.s .p (.s .p (.b (.u Cb9.lsM))))) .p)),[⟨sUq::sPq 0::sUq::sIq::ru2 5 (sIq::sIq::ru2 5 (sIq::sIq::ru2 42 (.s (.o (.lit .i64 0))::sUq::sPq 1::.s (.o .nil)::.s (.o (.lit .i64 0))::sUq::sPq 2::sPq 3::ru2 28 []))),[⟨0,1,true,some [[.c 3 (nL tV)]]⟩,⟨0,1,true,some [[.c 3 (nL tV)]]⟩,⟨0,0,true,some [[.o (.ptr 4 0 0 0)]]⟩,⟨0,0,true,some [[.o .nil]]⟩,⟨93,0,true,none⟩],λa H=>(⟨aIq a 3,aIq a 9,aIq a 10,aIq a 16⟩,⟨0,aIq a 17,hLq tV H 0 0 0,hLq tV H 1 0 0,elT H 4,0,[]⟩)⟩,⟨sUq::sPq 0::sUq::sIq::ru2 5 (sIq::sIq::ru2 5 (sIq::sIq::ru2 42 (.s (.o (.lit .i64 0))::sUq::sPq 1::.s (.o .nil)::.s (.o (.lit .i64 0))::sUq::sPq 2::sPq 3::ru2 28 []))),[⟨0,1,true,some [[.c 3 (nL tV)]]⟩,⟨0,1,true,some [[.c 3 (nL tV)]]⟩,⟨0,0,true,some [[.o (.ptr 4 0 0 0)]]⟩,⟨0,0,true,some [[.o (.sl 5 0 (some 0) none)]]⟩,⟨93,0,true,none⟩,⟨57,4,true,none⟩],λa H=>(⟨aIq a 3,aIq a 9,aIq a 10,aIq a 16⟩,⟨1,aIq a 17,hLq tV H 0 0 0,hLq tV H 1 0 0,elT H 4,slN (slT (rwT (elT H 3) 0) 0),elT H 5⟩)⟩],ea6,[(some 2,λp s=>upq (Wb9 p s) [(18,b (decide (s.N1<p.Ub5)))]),(some 2,λp s=>upq (Xb0 p s) [(18,b (decide (s.N1<p.Ub5)))])],ld5⟩
theorem ld6:Db0.OkM:=Lo.okMq [Cb9.prM] (.cons ld4 .nil) λp s=>(.sel (Nat.beq s.ph 1) (.ofq @ja0) (.ofq @ia9))
structure D8 where
 ph:Nat
 m9:Int
 (a8 g9:List V3)
 eh4:List (List a7)
 E5:Nat
 eh5:List (List a7)
def Xb1(p:L9)(s:D8):St:=⟨.unk::.ptr 0 0 0 0::ra 7 (i p.is9::i s.m9::ra 49 (i 0::.unk::.ptr 1 0 0 0::nlq::i 0::.unk::.ptr 2 0 0 0::.ptr 3 0 0 0::ra 28 [])),[bq 0 1 [[eL tV s.a8]],bq 0 1 [[eL tV s.g9]],bq 0 0 [[.ptr 4 0 0 0]],bq 0 0 [[nlq]],bq 93 0 s.eh4]⟩
def Xb2(p:L9)(s:D8):St:=⟨.unk::.ptr 0 0 0 0::ra 7 (i p.is9::i s.m9::ra 49 (i 0::.unk::.ptr 1 0 0 0::nlq::i 0::.unk::.ptr 2 0 0 0::.ptr 3 0 0 0::ra 28 [])),[bq 0 1 [[eL tV s.a8]],bq 0 1 [[eL tV s.g9]],bq 0 0 [[.ptr 4 0 0 0]],bq 0 0 [[.sl 5 0 s.E5 0]],bq 93 0 s.eh4,bq 57 4 s.eh5]⟩
def ld7(p:L9)(s:D8):St:=(sel (Nat.beq s.ph 1) (Xb2 p s) (Xb1 p s))
def ja1{α:Type}(k:D8->α)(e:Nat->α)(z:α)(p:L9)(s:D8):α:=let t1:=(lp (ea6 (⟨s.m9,p.is9,s.m9,(↑(s.m9.toNat-0):Int)⟩:ta6)) (⟨0,0,rt tV s.a8,rt tV s.g9,s.eh4,0,[]⟩:D0));(sl (decide (s.m9<p.is9)) (sl (inB s.m9 ((List.length s.a8)+1)) (sl ((cnE tV s.a8)&&((cnE tV s.g9)&&true)) (sl (Nat.beq t1.1 1) (k ⟨0,W (s.m9+1),t1.2.a8,t1.2.g9,t1.2.eh4,0,[]⟩) (sl (Nat.beq t1.1 2) (k ⟨1,W (s.m9+1),t1.2.a8,t1.2.g9,t1.2.eh4,t1.2.E5,t1.2.eh5⟩) z)) z) z) (e 1))
def ja2{α:Type}(k:D8->α)(e:Nat->α)(z:α)(p:L9)(s:D8):α:=let t1:=(lp (ea6 (⟨s.m9,p.is9,s.m9,(↑(s.m9.toNat-0):Int)⟩:ta6)) (⟨1,0,rt tV s.a8,rt tV s.g9,s.eh4,s.E5,s.eh5⟩:D0));(sl (decide (s.m9<p.is9)) (sl (inB s.m9 ((List.length s.a8)+1)) (sl ((cnE tV s.a8)&&((cnE tV s.g9)&&true)) (sl (Nat.beq t1.1 1) (k ⟨0,W (s.m9+1),t1.2.a8,t1.2.g9,t1.2.eh4,0,[]⟩) (sl (Nat.beq t1.1 2) (k ⟨1,W (s.m9+1),t1.2.a8,t1.2.g9,t1.2.eh4,t1.2.E5,t1.2.eh5⟩) z)) z) z) (e 2))
def Xa4(p:L9)(s:D8):Stp D8:=(sel (Nat.beq s.ph 1) (ja2 .next .exit .fail p s) (ja1 .next .exit .fail p s))
def Db1:Lo L9 D8:=⟨En lb7,0,nf7,[1,1,1,1,1,0,1,4,4,1,4,4],[1,9,10,60,62,63,64,66,67],.s .p (.s .p (.s (.b (.s .p (.s .p (.b (.u Db0.lsM))))) .p)),[⟨sUq::sPq 0::ru2 7 (sIq::sIq::ru2 49 (.s (.o (.lit .i64 0))::sUq::sPq 1::.s (.o .nil)::.s (.o (.lit .i64 0))::sUq::sPq 2::sPq 3::ru2 28 [])),[⟨0,1,true,some [[.c 3 (nL tV)]]⟩,⟨0,1,true,some [[.c 3 (nL tV)]]⟩,⟨0,0,true,some [[.o (.ptr 4 0 0 0)]]⟩,⟨0,0,true,some [[.o .nil]]⟩,⟨93,0,true,none⟩],λa H=>(⟨aIq a 9⟩,⟨0,aIq a 10,hLq tV H 0 0 0,hLq tV H 1 0 0,elT H 4,0,[]⟩)⟩,⟨sUq::sPq 0::ru2 7 (sIq::sIq::ru2 49 (.s (.o (.lit .i64 0))::sUq::sPq 1::.s (.o .nil)::.s (.o (.lit .i64 0))::sUq::sPq 2::sPq 3::ru2 28 [])),[⟨0,1,true,some [[.c 3 (nL tV)]]⟩,⟨0,1,true,some [[.c 3 (nL tV)]]⟩,⟨0,0,true,some [[.o (.ptr 4 0 0 0)]]⟩,⟨0,0,true,some [[.o (.sl 5 0 (some 0) none)]]⟩,⟨93,0,true,none⟩,⟨57,4,true,none⟩],λa H=>(⟨aIq a 9⟩,⟨1,aIq a 10,hLq tV H 0 0 0,hLq tV H 1 0 0,elT H 4,slN (slT (rwT (elT H 3) 0) 0),elT H 5⟩)⟩],Xa4,[(some 0,λp s=>upq (Xb1 p s) [(11,b (decide (s.m9<p.is9)))]),(some 0,λp s=>upq (Xb2 p s) [(11,b (decide (s.m9<p.is9)))])],ld7⟩
theorem ld8:Db1.OkM:=Lo.okMq [Db0.prM] (.cons ld6 .nil) λp s=>(.sel (Nat.beq s.ph 1) (.ofq @ja2) (.ofq @ja1))
def Ca5(x:V3×List V3):ROq:=let t1:=(Ca1 (rt tV (x.1::x.2)));let t2:=(rb6 (hC tV (λk=>(tV).row (gL tV (x.1::x.2) k)),tC tV (List.length x.2) (λk=>(tV).row (gL tV (x.1::x.2) k))));let t3:=(lp (Xa4 (⟨(↑(List.length t2):Int)⟩:L9)) (⟨0,0,rt tV t2,rt tV t2,[],0,[]⟩:D8));(sl (okE tV (x.1::x.2)) (sl (Ca2 (rt tV (x.1::x.2))) (sl (t1 != 0) (some (.tup [nlq,i t1],[])) (sl (okL tV (List.length x.2+1) (λk=>(tV).row (gL tV (x.1::x.2) k))) (sl (rb7 (hC tV (λk=>(tV).row (gL tV (x.1::x.2) k)),tC tV (List.length x.2) (λk=>(tV).row (gL tV (x.1::x.2) k)))) (sl ((cnE tV t2)&&((cnE tV t2)&&true)) (sl (Nat.beq t3.1 1) none (sl (Nat.beq t3.1 2) (sl (Bool.and (Nat.ble t3.2.E5 room) (Bool.and (Nat.ble t3.2.E5 (len t3.2.eh5)) (okS tP t3.2.eh5 0 t3.2.E5))) (some (.tup [.sl 0 0 t3.2.E5 0,i 0],[bq 57 4 (app (bL tP (Ac9 (slR tP t3.2.eh5 0 t3.2.E5))) (i9 t3.2.eh5 t3.2.E5))])) none) none)) none) none) none)) none) none)
def xb2(x:V3×List V3):PLq×Int:=G5 (two (r1L tP) r1I) (Ca5 x)
def xb3(x:V3×List V3):Bool:=okO (two (r1L tP) r1I) (Ca5 x)
def Oc8:Sum:=G4 (ie7 tV) (λx=>.guard (xb3 x) (.ret ((two (r1L tP) r1I).enc (xb2 x),[])))
theorem Bc6:e7 prog G 24 Oc8:=kc5 (bd b24 Dd7) (two (r1L tP) r1I) (o:=Ca5) λx=>Ad7 (.s .p (.s .p (.s .p (.s .p (.s .p (.s (.s .p (.b (.i (.s .p (.b (.u Db1.lsM)))))) .p)))))) [Db1.prM] (.cons ld8 .nil)
end Go.Ev.Ce
