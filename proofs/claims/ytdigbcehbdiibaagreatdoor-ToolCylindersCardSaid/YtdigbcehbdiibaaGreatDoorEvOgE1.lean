/- Own work. -/
import Derived.Test.YtdigbcehbdiibaaGreatDoorChecked
import Derived.Test.YtdigbcehbdiibaaGreatDoorEvOgCePf
import Derived.KernelRfl
set_option linter.all false
noncomputable section
def Qha:=@List.drop_eq_getElem_cons
def Qhb:=@Nat.gcd_pos_of_pos_right
def Qhc:=@List.length_mergeSort
def Qhd:=@Bool.false_eq_true
namespace Go.Ev.Ce
open Go Go.Ev Go.Proofs
set_option maxRecDepth 1000000
theorem mx:(Tryz.prog).follows .mixedOrders=true:=Checked.mixed Tryz.checked
abbrev Bdq(n:Nat)(pf:PFn):Prop:=oe0 Tryz.prog n λE=>Mc2 E pf
theorem bdq{f:FuncId}{fn:Func}(hf:(Tryz.prog).funcs[f]?=some fn)(hn:decide (fn.name ≠ "runtime.NumGoroutine")=true:=by kernel_rfl)(hc:Option.isSome (ec4 Tryz.prog fn)=true:=by kernel_rfl):Bdq f (got (ec4 Tryz.prog fn)):=uf5 mx hf hn (Wd7 hc)
theorem b3:Bdq 3 pf3:=bdq Tryz.func3
theorem b4:Bdq 4 pf4:=bdq Tryz.func4
theorem b5:Bdq 5 pf5:=bdq Tryz.func5
theorem b6:Bdq 6 pf6:=bdq Tryz.func6
theorem b9:Bdq 9 pf9:=bdq Tryz.func9
theorem b13:Bdq 13 nf4:=bdq Tryz.func13
theorem b16:Bdq 16 uf6:=bdq Tryz.func16
theorem b18:Bdq 18 nf5:=bdq Tryz.func18
theorem b20:Bdq 20 ef1:=bdq Tryz.func20
theorem b21:Bdq 21 uf7:=bdq Tryz.func21
theorem b23:Bdq 23 nf6:=bdq Tryz.func23
theorem b24:oe0 Tryz.prog 24 λE=>Ob6 E Oe5:=Xe6 (h:=h24) mx Tryz.func24 (by kernel_rfl) Tryz.func90 (by kernel_rfl) (Wd7 (by kernel_rfl))
theorem b25:Bdq 25 uf8:=bdq Tryz.func25
theorem b29:Bdq 29 uf9:=bdq Tryz.func29
theorem b30:Bdq 30 vf0:=bdq Tryz.func30
theorem b31:Bdq 31 vf1:=bdq Tryz.func31
theorem b34:Bdq 34 vf2:=bdq Tryz.func34
theorem b35:Bdq 35 vf3:=bdq Tryz.func35
theorem b36:Bdq 36 nf7:=bdq Tryz.func36
theorem b37:Bdq 37 vf4:=bdq Tryz.func37
theorem b38:Bdq 38 nf8:=bdq Tryz.func38
theorem b39:Bdq 39 nf9:=bdq Tryz.func39
theorem b45:Bdq 45 ef2:=bdq Tryz.func45
theorem b46:Bdq 46 vf5:=bdq Tryz.func46
theorem b47:Bdq 47 vf6:=bdq Tryz.func47
theorem b48:Bdq 48 vf7:=bdq Tryz.func48
theorem b49:Bdq 49 Oe6:=bdq Tryz.func49
theorem b50:Bdq 50 vf8:=bdq Tryz.func50
theorem b51:Bdq 51 vf9:=bdq Tryz.func51
theorem b52:Bdq 52 wf0:=bdq Tryz.func52
theorem b53:Bdq 53 wf1:=bdq Tryz.func53
theorem b54:Bdq 54 wf2:=bdq Tryz.func54
theorem b56:Bdq 56 wf3:=bdq Tryz.func56
theorem b57:Bdq 57 wf4:=bdq Tryz.func57
theorem b58:Bdq 58 of0:=bdq Tryz.func58
theorem b59:Bdq 59 wf5:=bdq Tryz.func59
theorem b61:Bdq 61 wf6:=bdq Tryz.func61
theorem b62:Bdq 62 wf7:=bdq Tryz.func62
theorem b63:Bdq 63 wf8:=bdq Tryz.func63
theorem b64:Bdq 64 wf9:=bdq Tryz.func64
theorem b65:Bdq 65 xf0:=bdq Tryz.func65
theorem b67:Bdq 67 xf1:=bdq Tryz.func67
theorem b68:Bdq 68 xf2:=bdq Tryz.func68
theorem b69:Bdq 69 xf3:=bdq Tryz.func69
theorem b70:Bdq 70 xf4:=bdq Tryz.func70
theorem b71:Bdq 71 xf5:=bdq Tryz.func71
theorem b72:Bdq 72 xf6:=bdq Tryz.func72
theorem b73:Bdq 73 xf7:=bdq Tryz.func73
theorem b74:Bdq 74 xf8:=bdq Tryz.func74
theorem b75:Bdq 75 xf9:=bdq Tryz.func75
theorem b76:Bdq 76 yf0:=bdq Tryz.func76
theorem b77:Bdq 77 yf1:=bdq Tryz.func77
theorem b81:Bdq 81 of1:=bdq Tryz.func81
theorem b82:Bdq 82 ef3:=bdq Tryz.func82
theorem b83:Bdq 83 of2:=bdq Tryz.func83
theorem b85:Bdq 85 yf2:=bdq Tryz.func85
theorem b86:oe0 Tryz.prog 86 λE=>Ob6 E Oe7:=Xe6 (h:=h86) mx Tryz.func86 (by kernel_rfl) Tryz.func90 (by kernel_rfl) (Wd7 (by kernel_rfl))
theorem b88:Bdq 88 yf3:=bdq Tryz.func88
theorem b89:Bdq 89 ef4:=bdq Tryz.func89
theorem b91:Bdq 91 yf4:=bdq Tryz.func91
theorem b92:Bdq 92 yf5:=bdq Tryz.func92
theorem b93:Bdq 93 yf6:=bdq Tryz.func93
theorem b96:Bdq 96 yf7:=bdq Tryz.func96
theorem b97:Bdq 97 of3:=bdq Tryz.func97
theorem b98:Bdq 98 ef5:=bdq Tryz.func98
theorem b99:Bdq 99 yf8:=bdq Tryz.func99
theorem yf9:Bdq 100 of4:=bdq Tryz.func100
theorem pf7:Bdq 108 ze6:=bdq Tryz.func108
theorem Wd8:Bdq 109 Nc8:=bdq Tryz.func109
theorem zf0:Bdq 114 of5:=bdq Tryz.func114
theorem zf1:Bdq 115 of6:=bdq Tryz.func115
theorem zf2:Bdq 118 of7:=bdq Tryz.func118
theorem zf3:Bdq 120 Xe7:=bdq Tryz.func120
theorem zf4:Bdq 121 of8:=bdq Tryz.func121
theorem zf5:Bdq 122 of9:=bdq Tryz.func122
theorem zf6:Bdq 123 pf0:=bdq Tryz.func123
theorem zf7:Bdq 134 ze7:=bdq Tryz.func134
theorem zf8:Bdq 156 pf1:=bdq Tryz.func156
theorem zf9:Bdq 162 pf2:=bdq Tryz.func162
end Go.Ev.Ce
namespace Go.Ev.L
open Go Go.Ev
def Rb9:RT->PC->PS2
 |.s a b,.seq x y=>.seq (Rb9 a x) (Rb9 b y)
 |.c a b,.cond g x y=>.cond g (Rb9 a x) (Rb9 b y)
 |.b a,.block id x=>.block id (Rb9 a x)
 |.i a,.inner f x n c=>.inner f x n (Rb9 a c)
 |.u S,_=>.sum S
 |_,c=>.pc c
theorem Ad0{E:Env}{k:Nat}(rt:RT)(c:PC):Ka2 (λx=>∀s,U3 (x.1 s) (E2 E k x.2 s)) (Jb1 rt c)->ka4 E k (Rb9 rt c) c:=by
 induction rt generalizing c with
 |p=>intro h;cases c<;>exact .pc _
 |s a b iha ihb =>
  intro h;cases c with
  |seq x y=>exact .seq (iha x (Ka2.app h).1) (ihb y (Ka2.app h).2)
  |_=>exact .pc _
 |c a b iha ihb =>
  intro h;cases c with
  |cond g x y=>exact .cond g (iha x (Ka2.app h).1) (ihb y (Ka2.app h).2)
  |_=>exact .pc _
 |b a iha =>
  intro h;cases c with
  |block id x=>exact .block id (iha x h)
  |_=>exact .pc _
 |l a iha=>intro h;cases c<;>exact .pc _
 |i a iha =>
  intro h;cases c with
  |inner f x n c=>exact .inner f x n (iha c h)
  |_=>exact .pc _
 |u S =>
  intro h
  have:Jb1 (.u S) c=[(S,c)]:=by cases c<;>rfl
  rw[this] at h;cases h with
  |cons h t =>
   have e:Rb9 (.u S) c=.sum S:=by cases c<;>rfl
   rw[e];exact .sum h
section
variable{π σ:Type}{E:Env}{k:Nat}{keep:List Nat}{alts:List (Al2 π σ)}{enc:π->σ->St}{step:π->σ->Stp σ}{xs:Xs π σ}{body:PS2}{c:PC}
theorem Xb8.belowM(hb:ka4 E k body c)(hN:E.N=rounds+1)(w:Xb8 Ld5 k keep (Fc8 E k body) alts step xs enc)(s:St):U3 (sd0 Ld5 k keep alts step xs s) (E2 E k (.loopM keep c) s):=λr hr=>by
 obtain⟨t,h1,h2⟩:=w.go hr;rw[Wd6,hN];exact Ob0 hb.le _ _ _ (fc7 h1 h2)
theorem Xb8.belowML(hb:ka4 E k body c)(hN:E.N=rounds+1)(w:Xb8 Xb2 k keep (Fc8 E k body) alts step xs enc)(s:St):U3 (sd0 Xb2 k keep alts step xs s) (E2 E k (.loop keep c) s):=λr hr=>by
 obtain⟨t,h1,h2⟩:=w.go hr;rw[rd9,hN];exact Ob0 hb.le _ _ _ (fc7 h1 h2)
end
end Go.Ev.L
namespace Go.Ev.Ab
open Go Go.Ev
@[reducible] noncomputable def o(d:Nat)(x:PO):PI:=⟨some d,none,[],x⟩
@[reducible] noncomputable def s(x:PO):PI:=⟨none,none,[],x⟩
@[reducible] noncomputable def ci(n:Int):Arg:=.c (.v (.int .i64 n))
@[reducible] noncomputable def cb(b:Bool):Arg:=.c (.v (.bool b))
@[reducible] noncomputable def vi(n:Int):a7:=.v (.int .i64 n)
@[reducible] noncomputable def rep{α:Type}(n:Nat)(x:α):List α:=List.replicate n x
@[reducible] noncomputable def ki(n:Nat):List CK:=List.replicate n (.int .i64)
@[reducible] noncomputable def mv(d n:Nat):PI:=o d (.mv (.t n))
@[reducible] noncomputable def mc(d:Nat)(n:Int):PI:=o d (.mv (ci n))
@[reducible] noncomputable def mb(d:Nat)(x:Bool):PI:=o d (.mv (cb x))
@[reducible] noncomputable def fd(d k n:Nat):PI:=o d (.fld k (.t n))
@[reducible] noncomputable def ex(d x k:Nat):PI:=o d (.ext (.t x) k)
@[reducible] noncomputable def so(l:List PI)(x:PC):PC:=.seq (.ops l) x
@[reducible] noncomputable def sq(x y:PC):PC:=.seq x y
@[reducible] noncomputable def ts(l:List Nat):List Arg:=l.map .t
@[reducible] noncomputable def cl(f:Nat)(l:List Nat):PO:=.call f (ts l)
@[reducible] noncomputable def sT(k a b:Nat):PI:=s (.store k (.t a) (.t b))
@[reducible] noncomputable def pa(d c x:Nat):PI:=o d (.pick (.t c) (.t x) (cb false))
@[reducible] noncomputable def po(d c x:Nat):PI:=o d (.pick (.t c) (cb true) (.t x))
@[reducible] noncomputable def al(d k:Nat)(n:Int):PI:=o d (.alloc (rep k (vi n)))
@[reducible] noncomputable def ap(d et es n x y:Nat):PI:=o d (.append et es n (.t x) (.t y))
end Go.Ev.Ab
namespace Go.Ev.L
open Go Go.Ev
def Cps{π σ:Type}(u:∀{α:Type},(σ->α)->(Nat->α)->α->π->σ->α):Prop :=
 ∀{α β:Type} (F:α->β) (k:σ->α) (e:Nat->α) (z:α) (p:π) (s:σ),F (u k e z p s)=u (λx=>F (k x)) (λt=>F (e t)) (F z) p s
@[reducible] noncomputable def foL{π σ:Type}(en:π->σ->St)(xs:Xs π σ)(p:π)(s:σ):Stp σ->Option (d8×St):=Xb3 (λs'=>some (.normal,en p s')) (λt=>xOf xs p s t 1) none
structure Lo(π σ:Type) where
 E:Env
 k:Nat
 F:PFn
 at':List Nat
 kp:List Nat
 rt:RT
 al:List (Al2 π σ)
 st:π->σ->Stp σ
 xs:Xs π σ
 en:π->σ->St
namespace Lo
variable{π σ:Type}(L:Lo π σ)
def lc:PC:=uf3 L.at' L.F.body
def ls:St->DT (d8×St):=sd0 Xb2 L.k L.kp L.al L.st L.xs
def lsM:St->DT (d8×St):=sd0 Ld5 L.k L.kp L.al L.st L.xs
def pr:(St->DT (d8×St))×PC:=(L.ls,.loop L.kp L.lc)
def prM:(St->DT (d8×St))×PC:=(L.lsM,.loopM L.kp L.lc)
def Ok:Prop:=∀s,Y9 L.k L.F.res (L.pr.1 s) (E2 L.E L.k L.pr.2 s)
def OkE:Prop:=∀s,U3 (L.pr.1 s) (E2 L.E L.k L.pr.2 s)
def OkM:Prop:=∀s,U3 (L.prM.1 s) (E2 L.E L.k L.prM.2 s)
def Rd(hd:St->DT St)(bd:St->DT (d8×St))(p:π)(s:σ)(a:St)(b:Stp σ):Prop:=(zb7 hd bd a).run=foL L.en L.xs p s b
def H0:Prop:=∀p s,L.Rd (Xb2 L.k L.kp) (ce0 L.E L.k L.F.res (dd1 L.rt L.lc)) p s (L.en p s) (L.st p s)
def H1:Prop:=∀p s,L.Rd (Xb2 L.k L.kp) (Fc8 L.E L.k (Rb9 L.rt L.lc)) p s (L.en p s) (L.st p s)
def H2:Prop:=∀p s,L.Rd (Ld5 L.k L.kp) (Fc8 L.E L.k (Rb9 L.rt L.lc)) p s (L.en p s) (L.st p s)
def HA:Prop:=Ka2 (λx=>∀a H,(⟨le3 x.sh a,le4 x.bl H⟩:St)=L.en (x.rd a H).1 (x.rd a H).2) L.al
variable{L}
theorem Rd.of{hd:St->DT St}{bd:St->DT (d8×St)}{p:π}{s:σ}{a:St}(u:∀{α:Type},(σ->α)->(Nat->α)->α->π->σ->α)
  (q:Cps @u) (H:(zb7 hd bd a).run=u (λx=>foL L.en L.xs p s (.next x)) (λt=>foL L.en L.xs p s (.exit t)) (foL L.en L.xs p s .fail) p s):L.Rd hd bd p s a (u .next .exit .fail p s) :=
 H.trans (q (foL L.en L.xs p s) Stp.next Stp.exit Stp.fail p s).symm
theorem Rd.sel{hd:St->DT St}{bd:St->DT (d8×St)}{p:π}{s:σ}{a1 a0:St}{b1 b0:Stp σ}(c:Bool)(h1:L.Rd hd bd p s a1 b1)(h0:L.Rd hd bd p s a0 b0):L.Rd hd bd p s (sel c a1 a0) (sel c b1 b0):=by
 cases c with
 |true=>exact h1
 |false=>exact h0
theorem ok(l:List ((St->DT (d8×St))×PC))(hs:Jb1 L.rt L.lc=l)(hl:Ka2 (λx=>∀s,Y9 L.k L.F.res (x.1 s) (E2 L.E L.k x.2 s)) l)(hN:L.E.N=rounds+1)(ha:L.HA)(h:L.H0):L.Ok :=
 Xb8.belowC (de1 _ _ (by rw[hs];exact hl)) hN ⟨ha,h⟩
theorem okE(l:List ((St->DT (d8×St))×PC))(hs:Jb1 L.rt L.lc=l)(hl:Ka2 (λx=>∀s,U3 (x.1 s) (E2 L.E L.k x.2 s)) l)(hN:L.E.N=rounds+1)(ha:L.HA)(h:L.H1):L.OkE :=
 Xb8.belowML (Ad0 _ _ (by rw[hs];exact hl)) hN ⟨ha,h⟩
theorem okM(l:List ((St->DT (d8×St))×PC))(hs:Jb1 L.rt L.lc=l)(hl:Ka2 (λx=>∀s,U3 (x.1 s) (E2 L.E L.k x.2 s)) l)(hN:L.E.N=rounds+1)(ha:L.HA)(h:L.H2):L.OkM :=
 Xb8.belowM (Ad0 _ _ (by rw[hs];exact hl)) hN ⟨ha,h⟩
end Lo
theorem Af0{E:Env}{F:PFn}{args:List a7}{blks:List b7}{o:Option (a7×List b7)}(rt:RT)(l:List ((St->DT (d8×St))×PC))(hs:Jb1 rt F.body=l)
  (hl:Ka2 (λx=>∀s,Y9 (len blks) F.res (x.1 s) (E2 E (len blks) x.2 s)) l) (h:(bf8 E F (dd1 rt F.body) args blks).run=o) (r:a7×List b7) (hr:o=some r):(Mc2 E F args blks).run=some r :=
 Ud1 (de1 rt _ (by rw[hs];exact hl)) r (h.trans hr)
theorem pf8{E:Env}{F:PFn}{args:List a7}{blks:List b7}{o:Option (a7×List b7)}(rt:RT)(l:List ((St->DT (d8×St))×PC))(hs:Jb1 rt F.body=l)
  (hl:Ka2 (λx=>∀s,U3 (x.1 s) (E2 E (len blks) x.2 s)) l) (h:(ze5 E F (Rb9 rt F.body) args blks).run=o) (r:a7×List b7) (hr:o=some r):(Ob6 E F args blks).run=some r :=
 Ld4 (Ad0 rt _ (by rw[hs];exact hl)) r (h.trans hr)
theorem ha4{A o:Option (a7×List b7)}(h:A=o)(r:a7×List b7)(hr:o=some r):A=some r:=h.trans hr
def Cpa{π ρ:Type}(u:∀{α:Type},(ρ->α)->π->α):Prop:=∀{α β:Type} (F:α->β) (k:ρ->α) (p:π),F (u k p)=u (λx=>F (k x)) p
theorem Lo.Rd.ofq{π σ:Type}{L:Lo π σ}{hd:St->DT St}{bd:St->DT (d8×St)}{p:π}{s:σ}{a:St}(u:∀{α:Type},(σ->α)->(Nat->α)->α->π->σ->α)
  (q:Cps @u:=by intro _ _ F _ _ _ _ _;(repeat' apply ue7 (f:=F))<;>rfl) (H:(zb7 hd bd a).run=u (λx=>foL L.en L.xs p s (.next x)) (λt=>foL L.en L.xs p s (.exit t)) (foL L.en L.xs p s .fail) p s:=by kernel_rfl):L.Rd hd bd p s a (u .next .exit .fail p s):=Lo.Rd.of @u q H
theorem Lo.okq {π σ : Type} {L : Lo π σ} (l : List ((St → DT (d8 × St)) × PC)) (hl : Ka2 (fun x => ∀ s, Y9 L.k L.F.res (x.1 s) (E2 L.E L.k x.2 s)) l) (h : L.H0) (hs : Jb1 L.rt L.lc = l := by kernel_rfl) (hN : L.E.N = rounds + 1 := by rfl)
  (ha:L.HA:=by repeat' (first | exact .nil | refine .cons (λa H=>by kernel_rfl) ?_)):L.Ok:=Lo.ok l hs hl hN ha h
theorem Lo.okMq {π σ : Type} {L : Lo π σ} (l : List ((St → DT (d8 × St)) × PC)) (hl : Ka2 (fun x => ∀ s, U3 (x.1 s) (E2 L.E L.k x.2 s)) l) (h : L.H2) (hs : Jb1 L.rt L.lc = l := by kernel_rfl) (hN : L.E.N = rounds + 1 := by rfl)
  (ha:L.HA:=by repeat' (first | exact .nil | refine .cons (λa H=>by kernel_rfl) ?_)):L.OkM:=Lo.okM l hs hl hN ha h
theorem ha5{E:Env}{F:PFn}{args:List a7}{blks:List b7}{o:Option (a7×List b7)}(rt:RT)(l:List ((St->DT (d8×St))×PC))
  (hl:Ka2 (λx=>∀s,Y9 (len blks) F.res (x.1 s) (E2 E (len blks) x.2 s)) l) (h:(bf8 E F (dd1 rt F.body) args blks).run=o:=by kernel_rfl) (hs:Jb1 rt F.body=l:=by kernel_rfl) (r:a7×List b7) (hr:o=some r):(Mc2 E F args blks).run=some r:=Af0 rt l hs hl h r hr
theorem fd1{E:Env}{F:PFn}{args:List a7}{blks:List b7}{o:Option (a7×List b7)}(rt:RT)(l:List ((St->DT (d8×St))×PC))
  (hl:Ka2 (λx=>∀s,U3 (x.1 s) (E2 E (len blks) x.2 s)) l) (h:(ze5 E F (Rb9 rt F.body) args blks).run=o:=by kernel_rfl) (hs:Jb1 rt F.body=l:=by kernel_rfl) (r:a7×List b7) (hr:o=some r):(Ob6 E F args blks).run=some r:=pf8 rt l hs hl h r hr
theorem mEq{π ρ β:Type}(u:∀{α:Type},(ρ->α)->π->α)(FO:ρ->β)(x:π){v:β}(h1:v=u FO x:=by kernel_rfl)(q:Cpa @u:=by intro _ _ F _ _;(repeat' apply ue7 (f:=F))<;>rfl):v=FO (u (λr=>r) x):=h1.trans (q FO (λr=>r) x).symm
abbrev nlq:a7:=.v (.slice none 0 0)
abbrev bq(et es:Nat)(el:List (List a7)):b7:=⟨et,es,el,true,false,0⟩
abbrev xa6{α:Type}(a n:Nat)(x:α)(y:DT α):DT α:=.ite (Nat.beq a n) (.ret x) y
theorem Ra7{α ρ:Type}{P:Program}{G:Nat->List Value}{f:FuncId}{R0:Sum}{c0:Cod α}(hb:d9 P G f R0)(R:RR ρ){o:α->Option (a7×List b7)}(h:∀a0 r,o a0=some r->(R0 [c0.enc a0] []).run=some r:=by exact λ_=>ha4 (by kernel_rfl)):d9 P G f (L6 c0 λa0=>rdO R (o a0)):=Ec5 hb R h
theorem ze8{α:Type}{P:Program}{G:Nat->List Value}{f:FuncId}{R:Sum}{c0:Cod α}{k:α->DT (a7×List b7)}(hb:d9 P G f R)(h:∀a0 r,(k a0).run=some r->(R [c0.enc a0] []).run=some r:=by exact λ_=>ha4 (by kernel_rfl)):d9 P G f (L6 c0 k):=fc8 hb h
theorem Yb9{α β ρ:Type}{P:Program}{G:Nat->List Value}{f:FuncId}{R0:Sum}{c0:Cod α}{c1:Cod β}(hb:d9 P G f R0)(R:RR ρ){o:α->β->Option (a7×List b7)}(h:∀a0 a1 r,o a0 a1=some r->(R0 [c0.enc a0,c1.enc a1] []).run=some r:=by exact λ_ _=>ha4 (by kernel_rfl)):d9 P G f (Ha5 c0 c1 λa0 a1=>rdO R (o a0 a1)):=ve1 hb R h
theorem ze9{α β:Type}{P:Program}{G:Nat->List Value}{f:FuncId}{R:Sum}{c0:Cod α}{c1:Cod β}{k:α->β->DT (a7×List b7)}(hb:d9 P G f R)(h:∀a0 a1 r,(k a0 a1).run=some r->(R [c0.enc a0,c1.enc a1] []).run=some r:=by exact λ_ _=>ha4 (by kernel_rfl)):d9 P G f (Ha5 c0 c1 k):=be7 hb h
theorem Xe8{α β γ ρ:Type}{P:Program}{G:Nat->List Value}{f:FuncId}{R0:Sum}{c0:Cod α}{c1:Cod β}{c2:Cod γ}(hb:d9 P G f R0)(R:RR ρ){o:α->β->γ->Option (a7×List b7)}(h:∀a0 a1 a2 r,o a0 a1 a2=some r->(R0 [c0.enc a0,c1.enc a1,c2.enc a2] []).run=some r:=by exact λ_ _ _=>ha4 (by kernel_rfl)):d9 P G f (Ub4 c0 c1 c2 λa0 a1 a2=>rdO R (o a0 a1 a2)):=mf0 hb R h
def tbN:List (Nat×Sum):=[]
theorem gb5{P:Program}{G:Nat->List Value}:l6 P G tbN:=trivial
abbrev upq(x:St)(l:List (Nat×a7)):St:=⟨l.foldl (λa q=>a.set q.1 q.2) x.a,x.H⟩
abbrev sIq:S2:=.s (.o (.int .i64))
abbrev sUq:S2:=.s (.o .unk)
abbrev sBq:S2:=.s (.o .bool)
abbrev sPq(n:Nat):S2:=.s (.o (.ptr n 0 0 0))
abbrev sTq(n:Nat):S2:=.s (.o (.tree n))
abbrev sLq{α:Type}(t:Ty α):S2:=.s (.c t.es (nL t))
abbrev kLq(n:Nat):List K:=List.replicate n (.o (.int .i64))
abbrev aIq(a:List a7)(n:Nat):Int:=toI (slT a n)
abbrev aBq(a:List a7)(n:Nat):Bool:=toB (slT a n)
abbrev aNq(a:List a7)(n:Nat):Nat:=toN (slT a n)
abbrev aGq(a:List a7)(n:Nat):Nat->List a7:=toG (slT a n)
abbrev aLq{α:Type}(t:Ty α)(a:List a7)(n:Nat):List α:=rL t (slT a n)
abbrev hIq(H:List b7)(m r n:Nat):Int:=toI (slT (rwT (elT H m) r) n)
abbrev cIq(a:List a7)(m n:Nat):Int:=toI (slT (cellsOf (slT a m)) n)
abbrev hLq{α:Type}(t:Ty α)(H:List b7)(m r n:Nat):List α:=rL t (slT (rwT (elT H m) r) n)
abbrev wLq{α:Type}(t:Ty α)(H:List b7)(m r k n:Nat):List α:=rL t (slT (cellsOf (slT (rwT (elT H m) r) k)) n)
abbrev wIq(H:List b7)(m r k n:Nat):Int:=toI (slT (cellsOf (slT (rwT (elT H m) r) k)) n)
end Go.Ev.L
namespace Go.Ev.Ce
structure V3 where
 x:Int
 y:Int
 z:Int
structure Pln where
 n:V3
 b:Int
structure Pt where
 px:Int
 py:Int
 pz:Int
 pw:Int
def d7(a b:V3):V3:=⟨a.y*b.z-a.z*b.y,a.z*b.x-a.x*b.z,a.x*b.y-a.y*b.x⟩
def dot(a b:V3):Int:=a.x*b.x+a.y*b.y+a.z*b.z
def mw(p q r:Pln):Int:=dot p.n (d7 q.n r.n)
end Go.Ev.Ce
namespace Go.Ev.Ce
open Go Go.Ev Go.Ev.L Go.Proofs
@[reducible] noncomputable def prog:Program:=Tryz.prog
def G:Nat->List Value:=λ_=>[]
def En(l:List (Nat×Sum)):Env:={ P:=prog,G,fns:=λ_=>none,call:=bf5 l,own:=λf j=>Bool.and (fb7 f [60,83,98,109,87,89]) (Nat.beq j 0),N:=18446744073709551616 }
@[reducible] noncomputable def u:a7:=.v (.tuple #[])
theorem qf0{l:List (Nat×Sum)}(h:l6 prog G l):∀f,d9 (En l).P (En l).G f ((En l).call f):=be6 h
theorem bd{l:List (Nat×Sum)}{f:FuncId}{R:Env->Sum}(b:oe0 prog f R)(h:l6 prog G l):d9 prog G f (R (En l)):=b rfl (qf0 h)
def tV:Ty V3 where
 es:=3
 row x:=[i x.x,i x.y,i x.z]
 rd r:=⟨toI (hdA r),toI (hdA (tlA r)),toI (hdA (tlA (tlA r)))⟩
 ok r:=Za6 3 r
 cks:=List.replicate 3 (.int .i64)
 d:=⟨0,0,0⟩
 h0 _:=rfl
 h1 _:=rfl
 h2 _:=rfl
 h3 _ h:=.of (pb4 h)
 h4 _:=rfl
 h5 _:=rfl
def r1V:R1 V3:=r1A tV 3 λ_ h=>h
def tP:Ty Pln where
 es:=4
 row x:=[i x.n.x,i x.n.y,i x.n.z,i x.b]
 rd r:=⟨⟨toI (hdA r),toI (hdA (tlA r)),toI (hdA (tlA (tlA r)))⟩,toI (hdA (tlA (tlA (tlA r))))⟩
 ok r:=Za6 4 r
 cks:=List.replicate 4 (.int .i64)
 d:=⟨⟨0,0,0⟩,0⟩
 h0 _:=rfl
 h1 _:=rfl
 h2 _:=rfl
 h3 _ h:=.of (pb4 h)
 h4 _:=rfl
 h5 _:=rfl
abbrev PLq:=List Pln
abbrev LPq:=List PLq
abbrev tLq:=tLs tP
abbrev tMq:=tLs tLq
abbrev ROq:=Option (a7×List b7)
def r1P:R1 Pln:=r1A tP 4 λ_ h=>h
structure Tp where
 p:Pln
 q:Pln
 r:Pln
structure Q2 where
 a:V3
 b:V3
set_option maxRecDepth 100000
def gc4(x:V3)(y:V3):Int:=(W ((W ((W (x.x*y.x))+(W (x.y*y.y))))+(W (x.z*y.z))))
def Ab1(x:V3)(y:V3):V3:=(⟨W ((W (x.y*y.z))-(W (x.z*y.y))),W ((W (x.z*y.x))-(W (x.x*y.z))),W ((W (x.x*y.y))-(W (x.y*y.x)))⟩:V3)
def Va0(x:Int):ROq:=(sl (decide (x<0)) (some (i (W (0-x)),[])) (some (i x,[])))
def Ca5(x:Int):Int:=O8 (one r1I) (Va0 x)
def Ca6(x:Int):Bool:=okO (one r1I) (Va0 x)
structure Ha6 where
 (is6 c9 e7 e8 tf8 tf9 uf0:Int)
structure ea0 where
 (is5 is7:Int)
def rb0{α:Type}(k:ea0->α)(e:Nat->α)(z:α)(p:Ha6)(s:ea0):α:=(sl (decide (s.is7>0)) (sl (s.is7==0) z (k ⟨s.is7,Int.tmod s.is5 s.is7⟩)) (e 1))
def pa4(p:Ha6)(s:ea0):Stp ea0:=rb0 .next .exit .fail p s
def Pb0(x:V3):ROq:=let y0:=(.tup [.agg [i 0,i 0,i 0],i 0],[]);let t1:=(Ca5 x.x);let t2:=(lp (pa4 (⟨0,x.x,x.y,x.z,x.x,x.y,x.z⟩:Ha6)) (⟨0,t1⟩:ea0));let t3:=(Ca5 x.y);let t4:=(lp (pa4 (⟨1,x.x,x.y,x.z,x.x,x.y,x.z⟩:Ha6)) (⟨t2.2.is5,t3⟩:ea0));let t5:=(Ca5 x.z);let t6:=(lp (pa4 (⟨2,x.x,x.y,x.z,x.x,x.y,x.z⟩:Ha6)) (⟨t4.2.is5,t5⟩:ea0));(sl (x.x==(-9223372036854775808)) (some y0) (sl (Ca6 x.x) (sl (Nat.beq t2.1 1) (sl (x.y==(-9223372036854775808)) (some y0) (sl (Ca6 x.y) (sl (Nat.beq t4.1 1) (sl (x.z==(-9223372036854775808)) (some y0) (sl (Ca6 x.z) (sl (Nat.beq t6.1 1) (sl (t6.2.is5==0) (some y0) (sl (t6.2.is5==0) none (sl (t6.2.is5==0) none (sl (t6.2.is5==0) none (some (.tup [.agg [i (W (Int.tdiv x.x t6.2.is5)),i (W (Int.tdiv x.y t6.2.is5)),i (W (Int.tdiv x.z t6.2.is5))],i t6.2.is5],[])))))) none) none)) none) none)) none) none))
def ab1(x:V3):V3×Int:=O8 (two r1V r1I) (Pb0 x)
def Pb1(x:V3):Bool:=okO (two r1V r1I) (Pb0 x)
def Ab2(x:Pln):ROq:=let t1:=(ab1 x.n);(sl (decide (x.n.x<(-4608))) (some (b false,[])) (sl (decide (x.n.x>4608)) (some (b false,[])) (sl (decide (x.n.y<(-4608))) (some (b false,[])) (sl (decide (x.n.y>4608)) (some (b false,[])) (sl (decide (x.n.z<(-4608))) (some (b false,[])) (sl (decide (x.n.z>4608)) (some (b false,[])) (sl (Pb1 x.n) (sl (t1.2==1) (sl (decide (x.b>=(-2097152))) (some (b (decide (x.b<=2097152)),[])) (some (b false,[]))) (some (b false,[]))) none)))))))
def Ld6(x:Pln):Bool:=O8 (one r1B) (Ab2 x)
def Zb0(x:Pln):Bool:=okO (one r1B) (Ab2 x)
def U4(x:V3)(y:V3):Int:=(W ((W ((W (x.x*y.x))+(W (x.y*y.y))))+(W (x.z*y.z))))
def Ab3:Sum:=Ha5 (Za5 tV) (Za5 tV) (λx y=>.ret ((one r1I).enc (U4 x y),[]))
theorem Pb2:d9 prog G 100 Ab3:=ze9 (bd yf9 gb5)
def fa6(x:V3)(y:V3):V3:=(⟨W ((W (x.y*y.z))-(W (x.z*y.y))),W ((W (x.z*y.x))-(W (x.x*y.z))),W ((W (x.x*y.y))-(W (x.y*y.x)))⟩:V3)
def Cb8:Sum:=Ha5 (Za5 tV) (Za5 tV) (λx y=>.ret ((one r1V).enc (fa6 x y),[]))
theorem Zb1:d9 prog G 114 Cb8:=ze9 (bd zf0 gb5)
structure ra3 where
 is0:Int
 ie0:List Int
 is8:Int
structure L3 where
 is9:Int
def Ab4(p:ra3)(s:L3):St:=⟨i p.is0::ra 6 (eL tI p.ie0::i p.is8::i s.is9::ra 13 []),[]⟩
def wa5{α:Type}(k:L3->α)(e:Nat->α)(z:α)(p:ra3)(s:L3):α:=(sl (decide (s.is9<p.is8)) (sl (inB s.is9 (List.length p.ie0)) (sl (decide ((gL tI p.ie0 s.is9.toNat)<(W (0-p.is0)))) (e 1) (sl (decide ((gL tI p.ie0 s.is9.toNat)>p.is0)) (e 1) (k ⟨W (s.is9+1)⟩))) z) (e 2))
def na7(p:ra3)(s:L3):Stp L3:=wa5 .next .exit .fail p s
def ab2:Lo ra3 L3:=⟨En tbN,0,of3,[1,0,1,4,4],[0,7,8,9],.p,[⟨sIq::ru2 6 (sLq tI::sIq::sIq::ru2 13 []),[],λa H=>(⟨aIq a 0,aLq tI a 7,aIq a 8⟩,⟨aIq a 9⟩)⟩],na7,[(none,λp s=>⟨[b false],[]⟩),(some 0,λp s=>upq (Ab4 p s) [(10,b (decide (s.is9<p.is8)))])],Ab4⟩
theorem vc3:ab2.Ok:=Lo.okq [] .nil λp s=>(.ofq @wa5)
def Ca7(x:Int)(y:List Int):ROq:=let t1:=(lp (na7 (⟨x,rt tI y,(↑(List.length y):Int)⟩:ra3)) (⟨0⟩:L3));(sl ((cnE tI y)&&true) (sl (Nat.beq t1.1 1) (some (b false,[])) (sl (Nat.beq t1.1 2) (some (b true,[])) none)) none)
def ra4(x:Int)(y:List Int):Bool:=O8 (one r1B) (Ca7 x y)
def ra5(x:Int)(y:List Int):Bool:=okO (one r1B) (Ca7 x y)
def rb1:Sum:=Ha5 cI (db5 tI) (λx y=>.guard (ra5 x y) (.ret ((one r1B).enc (ra4 x y),[])))
theorem Sb0:d9 prog G 97 rb1:=ve1 (bd b97 gb5) (one r1B) (o:=Ca7) λx y=>ha5 (.s .p (.s (.s .p (.b (.u ab2.ls))) .p)) [ab2.pr] (.cons vc3 .nil)
def Ha7(x:Int):Int:=(if (W (0-x))>x then (W (0-x)) else x)
def Jb7:Sum:=L6 cI (λx=>.ret ((one r1I).enc (Ha7 x),[]))
theorem vc4:d9 prog G 162 Jb7:=ze8 (bd zf9 gb5)
def ab3:List (Nat×Sum):=[(162,Jb7)]
theorem vc5:l6 prog G ab3:=⟨vc4,trivial⟩
structure aa1 where
 Cb1:List Int
 (is7 is8:Int)
structure N4 where
 (is3 is5:Int)
def rb2(p:aa1)(s:N4):St:=⟨ra 3 (i s.is3::.unk::i s.is5::eL tI p.Cb1::i p.is7::i p.is8::ra 15 []),[]⟩
def qa5{α:Type}(k:N4->α)(e:Nat->α)(z:α)(p:aa1)(s:N4):α:=(sl (decide (s.is5>0)) (sl (s.is5==0) z (k ⟨s.is5,Int.tmod s.is3 s.is5⟩)) (e 1))
def X1(p:aa1)(s:N4):Stp N4:=qa5 .next .exit .fail p s
def Va1:Lo aa1 N4:=⟨En ab3,0,ze7,[1,1,0,1,4,4,1,1,0,4,1,1,1,4,4],[3,5,6,7,8],.p,[⟨ru2 3 (sIq::sUq::sIq::sLq tI::sIq::sIq::ru2 15 []),[],λa H=>(⟨aLq tI a 6,aIq a 7,aIq a 8⟩,⟨aIq a 3,aIq a 5⟩)⟩],X1,[(some 2,λp s=>upq (rb2 p s) [(16,i s.is5),(17,b (decide (s.is5>0)))])],rb2⟩
theorem pc9:Va1.Ok:=Lo.okq [] .nil λp s=>(.ofq @qa5)
structure na8 where
 is7:Int
structure I4 where
 is3:Int
 Cb1:List Int
 is8:Int
def rb3(p:na8)(s:I4):St:=⟨ra 3 (i s.is3::.unk::.unk::eL tI s.Cb1::i p.is7::i s.is8::ra 15 []),[]⟩
def qa6{α:Type}(k:I4->α)(e:Nat->α)(z:α)(p:na8)(s:I4):α:=let t1:=(Ha7 (gL tI s.Cb1 s.is8.toNat));let t2:=(lp (X1 (⟨rt tI s.Cb1,p.is7,s.is8⟩:aa1)) (⟨s.is3,t1⟩:N4));(sl (decide (s.is8<p.is7)) (sl (inB s.is8 (List.length s.Cb1)) (sl ((gL tI s.Cb1 s.is8.toNat)==(-9223372036854775808)) (e 1) (sl ((cnE tI s.Cb1)&&true) (sl (Nat.beq t2.1 1) (k ⟨t2.2.is3,rt tI s.Cb1,W (s.is8+1)⟩) z) z)) z) (e 2))
def ha6(p:na8)(s:I4):Stp I4:=qa6 .next .exit .fail p s
def Va2:Lo na8 I4:=⟨En ab3,0,ze7,[1,1,0,1,4,4],[3,6,7,8],.s .p (.s .p (.s (.b (.s .p (.s .p (.s .p (.b (.u Va1.ls)))))) .p)),[⟨ru2 3 (sIq::sUq::sUq::sLq tI::sIq::sIq::ru2 15 []),[],λa H=>(⟨aIq a 7⟩,⟨aIq a 3,aLq tI a 6,aIq a 8⟩)⟩],ha6,[(none,λp s=>⟨[i 0],[]⟩),(some 0,λp s=>upq (rb3 p s) [(9,b (decide (s.is8<p.is7)))])],rb3⟩
theorem qc0:Va2.Ok:=Lo.okq [Va1.pr] (.cons pc9 .nil) λp s=>(.ofq @qa6)
def xa7(x:List Int):ROq:=let t1:=(lp (ha6 (⟨(↑(List.length x):Int)⟩:na8)) (⟨0,rt tI x,0⟩:I4));(sl ((cnE tI x)&&true) (sl (Nat.beq t1.1 1) (some (i 0,[])) (sl (Nat.beq t1.1 2) (some (i t1.2.is3,[])) none)) none)
def ca4(x:List Int):Int:=O8 (one r1I) (xa7 x)
def ca5(x:List Int):Bool:=okO (one r1I) (xa7 x)
def gb6:Sum:=L6 (db5 tI) (λx=>.guard (ca5 x) (.ret ((one r1I).enc (ca4 x),[])))
theorem Jb8:d9 prog G 134 gb6:=Ec5 (bd zf7 vc5) (one r1I) (o:=xa7) λx=>ha5 (.s .p (.s .p (.s (.s .p (.b (.u Va2.ls))) .p))) [Va2.pr] (.cons qc0 .nil)
def fd2:List (Nat×Sum):=[(97,rb1),(134,gb6)]
theorem Qc1:l6 prog G fd2:=⟨Sb0,Jb8,trivial⟩
def Ka8(x:Pln):ROq:=let t1:=(ra4 4608 [x.n.x,x.n.y,x.n.z]);let t2:=(ca4 [x.n.x,x.n.y,x.n.z]);let t3:=(ra4 2097152 [x.b]);(sl (ra5 4608 [x.n.x,x.n.y,x.n.z]) (sl t1 (sl (ca5 [x.n.x,x.n.y,x.n.z]) (sl (t2==1) (sl (ra5 2097152 [x.b]) (some (b t3,[])) none) (some (b false,[]))) none) (some (b false,[]))) none)
def cb0(x:Pln):Bool:=O8 (one r1B) (Ka8 x)
def cb1(x:Pln):Bool:=okO (one r1B) (Ka8 x)
def kc3:Sum:=L6 (Za5 tP) (λx=>.guard (cb1 x) (.ret ((one r1B).enc (cb0 x),[])))
theorem fd3:d9 prog G 99 kc3:=Ra7 (bd b99 Qc1) (one r1B) (o:=Ka8)
def Ka9(x:Int)(y:Int):ROq:=(sl (decide (x<y)) (some (i (-1),[])) (sl (decide (x>y)) (some (i 1,[])) (some (i 0,[]))))
def fa7(x:Int)(y:Int):Int:=O8 (one r1I) (Ka9 x y)
def fa8(x:Int)(y:Int):Bool:=okO (one r1I) (Ka9 x y)
def Cb9:Sum:=Ha5 cI cI (λx y=>.guard (fa8 x y) (.ret ((one r1I).enc (fa7 x y),[])))
theorem Zb2:d9 prog G 96 Cb9:=Yb9 (bd b96 gb5) (one r1I) (o:=Ka9)
def Fc9:List (Nat×Sum):=[(96,Cb9)]
theorem vc6:l6 prog G Fc9:=⟨Zb2,trivial⟩
def xa8(x:Pln)(y:Pln):ROq:=let t1:=(fa7 x.n.x y.n.x);let t2:=(fa7 x.n.y y.n.y);let t3:=(fa7 x.n.z y.n.z);let t4:=(fa7 x.b y.b);(sl (fa8 x.n.x y.n.x) (sl (t1==0) (sl (fa8 x.n.y y.n.y) (sl (t2==0) (sl (fa8 x.n.z y.n.z) (sl (t3==0) (sl (fa8 x.b y.b) (sl (t4==0) (some (i t4,[])) (some (i t4,[]))) none) (some (i t3,[]))) none) (some (i t2,[]))) none) (some (i t1,[]))) none)
def Pa4(x:Pln)(y:Pln):Int:=O8 (one r1I) (xa8 x y)
def Pa5(x:Pln)(y:Pln):Bool:=okO (one r1I) (xa8 x y)
def gb7:Sum:=Ha5 (Za5 tP) (Za5 tP) (λx y=>.guard (Pa5 x y) (.ret ((one r1I).enc (Pa4 x y),[])))
theorem Gc0:d9 prog G 61 gb7:=Yb9 (bd b61 vc6) (one r1I) (o:=xa8)
def Ld7:List (Nat×Sum):=[(97,rb1)]
theorem Ad1:l6 prog G Ld7:=⟨Sb0,trivial⟩
def rb4(x:V3):ROq:=let t1:=(ra4 24 [x.x,x.y,x.z]);(sl (ra5 24 [x.x,x.y,x.z]) (some (b t1,[])) none)
def wa6(x:V3):Bool:=O8 (one r1B) (rb4 x)
def wa7(x:V3):Bool:=okO (one r1B) (rb4 x)
def rb5:Sum:=L6 (Za5 tV) (λx=>.guard (wa7 x) (.ret ((one r1B).enc (wa6 x),[])))
theorem Ab5:d9 prog G 62 rb5:=Ra7 (bd b62 Ad1) (one r1B) (o:=rb4)
end Go.Ev.Ce
namespace Go.Proofs
open Go.Shelf
set_option maxRecDepth 100000 in
def Ce.sortLay_ren:Go.Shelf.Ren:=⟨fun | 6=>60 | 15=>95 | 14=>94 | 28=>132 | 29=>133 | 20=>124 | 21=>125 | 22=>126 | 23=>127 | 24=>128 | 25=>129 | 26=>130 | 27=>131 | 46=>157 | 47=>158 | 48=>159 | 49=>160 | 50=>161 | 57=>171 | n=>n,fun | 22=>53 | 24=>57 | 25=>98 | 3=>3 | 39=>119 | 0=>0 | 53=>147 | 55=>149 | 4=>4 | 46=>141 | 45=>140 | 50=>38 | 5=>5 | 9=>9 | 66=>162 | 70=>166 | 76=>171 | 77=>172 | n=>n,fun | n=>n⟩
set_option maxRecDepth 100000 in
theorem Ce.sortLay:Go.Proofs.SlLaysF0.n6 Tryz.prog Ce.sortLay_ren:={
 mixed:=by kernel_rfl
 f6:=⟨Tryz.f60.name,by decide,Tryz.func60.trans (congrArg some (by kernel_rfl))⟩
 f14:=⟨Tryz.f94.name,by decide,Tryz.func94.trans (congrArg some (by kernel_rfl))⟩
 f15:=Tryz.func95.trans (congrArg some (by kernel_rfl))
 f20:=⟨Tryz.f124.name,by decide,Tryz.func124.trans (congrArg some (by kernel_rfl))⟩
 f21:=⟨Tryz.f125.name,by decide,Tryz.func125.trans (congrArg some (by kernel_rfl))⟩
 f22:=⟨Tryz.f126.name,by decide,Tryz.func126.trans (congrArg some (by kernel_rfl))⟩
 f23:=⟨Tryz.f127.name,by decide,Tryz.func127.trans (congrArg some (by kernel_rfl))⟩
 f24:=⟨Tryz.f128.name,by decide,Tryz.func128.trans (congrArg some (by kernel_rfl))⟩
 f25:=⟨Tryz.f129.name,by decide,Tryz.func129.trans (congrArg some (by kernel_rfl))⟩
 f26:=⟨Tryz.f130.name,by decide,Tryz.func130.trans (congrArg some (by kernel_rfl))⟩
 f27:=⟨Tryz.f131.name,by decide,Tryz.func131.trans (congrArg some (by kernel_rfl))⟩
 f28:=Tryz.func132.trans (congrArg some (by kernel_rfl))
 f29:=Tryz.func133.trans (congrArg some (by kernel_rfl))
 f46:=⟨Tryz.f157.name,by decide,Tryz.func157.trans (congrArg some (by kernel_rfl))⟩
 f47:=Tryz.func158.trans (congrArg some (by kernel_rfl))
 f48:=Tryz.func159.trans (congrArg some (by kernel_rfl))
 f49:=⟨Tryz.f160.name,by decide,Tryz.func160.trans (congrArg some (by kernel_rfl))⟩
 f50:=⟨Tryz.f161.name,by decide,Tryz.func161.trans (congrArg some (by kernel_rfl))⟩
 f57:=⟨Tryz.f171.name,by decide,Tryz.func171.trans (congrArg some (by kernel_rfl))⟩
 t0:=Tryz.underlying0
 a0:=Tryz.isAgg0
 z0:=Tryz.sizeOf0
 v0:=Tryz.zeroValue0
 t3:=Tryz.underlying3
 a3:=Tryz.isAgg3
 z3:=Tryz.sizeOf3
 v3:=Tryz.zeroValue3
 t4:=Tryz.underlying4
 a4:=Tryz.isAgg4
 z4:=Tryz.sizeOf4
 v4:=Tryz.zeroValue4
 t5:=Tryz.underlying5
 a5:=Tryz.isAgg5
 z5:=Tryz.sizeOf5
 v5:=Tryz.zeroValue5
 t9:=Tryz.underlying9
 a9:=Tryz.isAgg9
 z9:=Tryz.sizeOf9
 v9:=Tryz.zeroValue9
 t22:=Tryz.underlying53
 a22:=Tryz.isAgg53
 z22:=Tryz.sizeOf53
 v22:=Tryz.zeroValue53
 t25:=Tryz.underlying98
 a25:=Tryz.isAgg98
 z25:=Tryz.sizeOf98
 v25:=Tryz.zeroValue98
 t39:=Tryz.underlying119
 a39:=Tryz.isAgg119
 z39:=Tryz.sizeOf119
 v39:=Tryz.zeroValue119
 t45:=Tryz.underlying140
 a45:=Tryz.isAgg140
 z45:=Tryz.sizeOf140
 v45:=Tryz.zeroValue140
 t46:=Tryz.underlying141
 a46:=Tryz.isAgg141
 z46:=Tryz.sizeOf141
 v46:=Tryz.zeroValue141
 t50:=Tryz.underlying38
 a50:=Tryz.isAgg38
 z50:=Tryz.sizeOf38
 v50:=Tryz.zeroValue38
 t53:=Tryz.underlying147
 a53:=Tryz.isAgg147
 z53:=Tryz.sizeOf147
 v53:=Tryz.zeroValue147
 t55:=Tryz.underlying149
 a55:=Tryz.isAgg149
 z55:=Tryz.sizeOf149
 v55:=Tryz.zeroValue149
 t66:=Tryz.underlying162
 a66:=Tryz.isAgg162
 z66:=Tryz.sizeOf162
 v66:=Tryz.zeroValue162
 t70:=Tryz.underlying166
 a70:=Tryz.isAgg166
 z70:=Tryz.sizeOf166
 v70:=Tryz.zeroValue166
 t76:=Tryz.underlying171
 a76:=Tryz.isAgg171
 z76:=Tryz.sizeOf171
 v76:=Tryz.zeroValue171
 t77:=Tryz.underlying172
 a77:=Tryz.isAgg172
 z77:=Tryz.sizeOf172
 v77:=Tryz.zeroValue172 }
end Go.Proofs
namespace Go.Ev.Ce
open Go Go.Ev Go.Ev.L Go.Proofs Go.Sort
def Db0(x y:Int):Int:=if x<y then -1 else if x>y then 1 else 0
def Db1(x y:Pln):Int :=
 if Db0 x.n.x y.n.x=0 then if Db0 x.n.y y.n.y=0 then if Db0 x.n.z y.n.z=0 then Db0 x.b y.b else Db0 x.n.z y.n.z else Db0 x.n.y y.n.y else Db0 x.n.x y.n.x
theorem Pb3(x y:Int):Db0 x y<0↔x<y:=by unfold Db0;split<;>(try split)<;>omega
theorem vc7(x y:Int):Db0 x y=0↔x=y:=by unfold Db0;split<;>(try split)<;>omega
def LtP(x y:Pln):Prop:=x.n.x<y.n.x\/x.n.x=y.n.x/\(x.n.y<y.n.y\/x.n.y=y.n.y/\(x.n.z<y.n.z\/x.n.z=y.n.z/\x.b<y.b))
instance(x y:Pln):Decidable (LtP x y):=by unfold LtP;exact inferInstance
theorem Ad2(x y:Pln):Db1 x y<0↔LtP x y:=by
 have h1:=Pb3 x.n.x y.n.x;have h2:=vc7 x.n.x y.n.x;have h3:=Pb3 x.n.y y.n.y;have h4:=vc7 x.n.y y.n.y;have h5:=Pb3 x.n.z y.n.z;have h6:=vc7 x.n.z y.n.z;have h7:=Pb3 x.b y.b;unfold Db1 LtP;split
 ·split
  ·split<;>omega
  ·omega
 ·omega
theorem ab4(x y:Pln):ltOf Db1 x y=decide (LtP x y):=by
 unfold ltOf;rw[decide_eq_decide];exact Ad2 x y
theorem qf1:SWO (ltOf Db1) where
 irrefl x:=by rw[ab4];simp[LtP]
 trans x y z h1 h2:=by rw[ab4,decide_eq_true_eq] at *;unfold LtP at *;omega
 ntrans x y z h1 h2:=by rw[ab4,decide_eq_false_iff_not] at *;unfold LtP at *;omega
theorem Af1(x y:Pln)(h1:ltOf Db1 x y=false)(h2:ltOf Db1 y x=false):x=y:=by
 rw[ab4,decide_eq_false_iff_not] at *
 unfold LtP at *
 obtain⟨⟨a,b,c⟩,d⟩:=x;obtain⟨⟨a',b',c'⟩,d'⟩:=y
 simp only at *
 have:a=a'/\b=b'/\c=c'/\d=d':=by omega
 obtain⟨rfl,rfl,rfl,rfl⟩:=this;rfl
theorem Ld8(x y:Int):Ka9 x y=some (i (Db0 x y),[]):=by
 unfold Ka9 Db0;simp only[pc5,decide_eq_true_eq]
 split<;>(try split)<;>rfl
theorem ee4(x y:Int):fa7 x y=Db0 x y:=by unfold fa7;rw[Ld8];rfl
theorem ee5(x y:Int):fa8 x y=true:=by unfold fa8;rw[Ld8];rfl
theorem fd4(x y:Pln):xa8 x y=some (i (Db1 x y),[]):=by
 unfold xa8 Db1;simp only[ee4,ee5,pc5,beq_iff_eq,if_true]
 repeat' (first | rfl | split)
theorem qf2(x y:Pln):Pa4 x y=Db1 x y:=by unfold Pa4;rw[fd4];rfl
theorem qf3(x y:Pln):Pa5 x y=true:=by unfold Pa5;rw[fd4];rfl
theorem qf4(x y:Pln):(gb7 [.agg (tP.row x),.agg (tP.row y)] []).run=some (i (Db1 x y),[]):=by
 have:(gb7 [.agg (tP.row x),.agg (tP.row y)] []).run=sel (Pa5 x y) (some (i (Pa4 x y),[])) none:=by kernel_rfl
 rw[this,qf3,qf2]
def Fc7(p:Pln):List Value:=[.int .i64 p.n.x,.int .i64 p.n.y,.int .i64 p.n.z,.int .i64 p.b]
instance:Inhabited Pln:=⟨⟨⟨0,0,0⟩,0⟩⟩
def kc4(l:PLq):PLq:=l.mergeSort λx y=>!ltOf Db1 y x
theorem gc5(l:PLq):(kc4 l).length=l.length:=Qhc l
def Ra8:Sum:=de3 tP 61 57 kc4
theorem Ae0:Ce.sortLay_ren.f 6=60:=by kernel_rfl
theorem td5:Ce.sortLay_ren.t 24=57:=by kernel_rfl
set_option maxRecDepth 100000 in
theorem Db2:d9 prog G 60 Ra8:=by
 refine de4 (enc:=Fc7) (cf:=Db1) ⟨_,Tryz.func60,by kernel_rfl,of_decide_eq_true (by kernel_rfl)⟩ (by decide) (λ_=>rfl) (λr h=>pb4 (n:=4) h) (λx v hv=>?_) gc5
  (λblk off size w=>de2 Gc0 qf4 (λ_=>rfl) (λ_=>rfl) _ _ _ _ _) (λblk cap d w hcl hH hb hs=>?_)
 ·simp[Fc7] at hv
  rcases hv with rfl|rfl|rfl|rfl<;>rfl
 ·have eg:∀args w,(callFunc 61 args).run Tryz.prog w=.ok (.enter 61 args) w:=enters_of Tryz.func61 (by kernel_rfl) rfl
  have:=AnyQ.slices_SortFunc Ce.sortLay 4 (by rw[td5];exact Tryz.isAgg57) (by rw[td5];exact Tryz.sizeOf57) Fc7 (λ_=>rfl) (λx v hv=>by simp[Fc7] at hv;rcases hv with rfl | rfl | rfl | rfl<;>rfl) Db1 qf1 61 #[] blk 0 cap d w eg (hcl 0 d.size) hH hb hs
  rw[Ae0] at this;refine this.mono λe w' ⟨h1,d',n,os,h2,h3,h4⟩=>⟨h1,n,os,?_⟩
  have h5:=sorted_unique_holds qf1 Af1 d d' h2 h3;rw[h4];show _=sortWorldK Fc7 4 w blk 0 n (d.toList.mergeSort λx y=>!ltOf Db1 y x).toArray os
  rw[<- h5]
end Go.Ev.Ce
namespace Go.Ev.Ce
open Go Go.Ev Go.Ev.L Go.Proofs
set_option maxRecDepth 100000
structure re9 where
 is1:Int
 kf8:List Int
 e7:Int
structure se0 where
 alt:Nat
 (is0 e7:Int)
def pb5(x:V3)(y:V3):V3:=(⟨W (x.x-y.x),W (x.y-y.y),W (x.z-y.z)⟩:V3)
def vc8(x:V3):ROq:=(sl (decide (x.x<(-24))) (some (b false,[])) (sl (decide (x.x>24)) (some (b false,[])) (sl (decide (x.y<(-24))) (some (b false,[])) (sl (decide (x.y>24)) (some (b false,[])) (sl (decide (x.z<(-24))) (some (b false,[])) (sl (decide (x.z>24)) (some (b false,[])) (some (b true,[]))))))))
def Jb9(x:V3):Bool:=O8 (one r1B) (vc8 x)
def Kb0(x:V3):Bool:=okO (one r1B) (vc8 x)
def cb2(x:V3)(y:V3)(z:V3):ROq:=let y0:=(.tup [.agg [i 0,i 0,i 0,i 0],b false],[]);let t1:=(Jb9 x);let t2:=(Jb9 y);let t3:=(Jb9 z);let t4:=(pb5 y x);let t5:=(pb5 z x);let t6:=(Ab1 t4 t5);let t7:=(ab1 t6);let t8:=(gc4 t7.1 x);(sl (Kb0 x) (sl (!t1) (some y0) (sl (Kb0 y) (sl (!t2) (some y0) (sl (Kb0 z) (sl (!t3) (some y0) (sl (Pb1 t6) (sl (t7.2==0) (some y0) (some (.tup [.agg [i t7.1.x,i t7.1.y,i t7.1.z,i t8],b true],[]))) none)) none)) none)) none)
def nd1(x:V3)(y:V3)(z:V3):Pln×Bool:=O8 (two r1P r1B) (cb2 x y z)
def Db3(x:V3)(y:V3)(z:V3):Bool:=okO (two r1P r1B) (cb2 x y z)
def Pb4(x:Pln)(y:V3):ROq:=let t1:=(Ld6 x);let t2:=(Jb9 y);let t3:=(gc4 x.n y);(sl (Zb0 x) (sl (!t1) (some (i 0,[])) (sl (Kb0 y) (sl (!t2) (some (i 0,[])) (sl (decide ((W (t3-x.b))<0)) (some (i (-1),[])) (sl (decide ((W (t3-x.b))>0)) (some (i 1,[])) (some (i 0,[]))))) none)) none)
def Wd9(x:Pln)(y:V3):Int:=O8 (one r1I) (Pb4 x y)
def fd5(x:Pln)(y:V3):Bool:=okO (one r1I) (Pb4 x y)
structure se1 where
 (c9 e7 e8 A8 fa4 Bc4 Bc5 uf1:Int)
structure se2 where
 is7:Int
structure Va3 where
 f8:List V3
 (is3 is4 is5:Int)
 bs7:Bool
 (c9 e7 e8 A8:Int)
structure Ha8 where
 is8:Int
def rb6{α:Type}(k:Ha8->α)(e:Nat->α)(z:α)(p:Va3)(s:Ha8):α:=let y0:=(⟨(⟨p.c9,p.e7,p.e8⟩:V3),p.A8⟩:Pln);let t1:=(Wd9 y0 (gL tV p.f8 s.is8.toNat));(sl (decide (s.is8<(↑(List.length p.f8):Int))) (sl p.bs7 (sl (inB s.is8 (List.length p.f8)) (sl (fd5 y0 (gL tV p.f8 s.is8.toNat)) (sl (t1 != 0) (e 1) (k ⟨W (s.is8+1)⟩)) z) z) (e 2)) (e 3))
def La0(p:Va3)(s:Ha8):Stp Ha8:=rb6 .next .exit .fail p s
structure Pb5 where
 (is3 is4:Int)
structure Ha9 where
 f8:List V3
 is5:Int
def rb7{α:Type}(k:Ha9->α)(e:Nat->α)(z:α)(p:Pb5)(s:Ha9):α:=let y0:=(List.length s.f8);let t1:=(nd1 (gL tV s.f8 p.is3.toNat) (gL tV s.f8 p.is4.toNat) (gL tV s.f8 s.is5.toNat));let t2:=(lp (La0 (⟨rt tV s.f8,p.is3,p.is4,s.is5,t1.2,t1.1.n.x,t1.1.n.y,t1.1.n.z,t1.1.b⟩:Va3)) (⟨0⟩:Ha8));(sl (decide (s.is5<p.is4)) (sl (inB p.is3 y0) (sl (inB p.is4 y0) (sl (inB s.is5 y0) (sl (Db3 (gL tV s.f8 p.is3.toNat) (gL tV s.f8 p.is4.toNat) (gL tV s.f8 s.is5.toNat)) (sl ((cnE tV s.f8)&&true) (sl (Nat.beq t2.1 1) (e 1) (sl (Nat.beq t2.1 2) (k ⟨rt tV s.f8,W (s.is5+1)⟩) (sl (Nat.beq t2.1 3) (k ⟨rt tV s.f8,W (s.is5+1)⟩) z))) z) z) z) z) z) (e 2))
def La1(p:Pb5)(s:Ha9):Stp Ha9:=rb7 .next .exit .fail p s
structure Pb6 where
 is3:Int
structure Ia0 where
 f8:List V3
 is4:Int
def rb8{α:Type}(k:Ia0->α)(e:Nat->α)(z:α)(p:Pb6)(s:Ia0):α:=let t1:=(lp (La1 (⟨p.is3,s.is4⟩:Pb5)) (⟨rt tV s.f8,0⟩:Ha9));(sl (decide (s.is4<p.is3)) (sl ((cnE tV s.f8)&&true) (sl (Nat.beq t1.1 1) (e 1) (sl (Nat.beq t1.1 2) (k ⟨t1.2.f8,W (s.is4+1)⟩) z)) z) (e 2))
def La2(p:Pb6)(s:Ia0):Stp Ia0:=rb8 .next .exit .fail p s
structure Pb7 where
structure Ia1 where
 f8:List V3
 is3:Int
def rb9{α:Type}(k:Ia1->α)(e:Nat->α)(z:α)(p:Pb7)(s:Ia1):α:=let t1:=(lp (La2 (⟨s.is3⟩:Pb6)) (⟨rt tV s.f8,0⟩:Ia0));(sl (decide (s.is3<(↑(List.length s.f8):Int))) (sl ((cnE tV s.f8)&&true) (sl (Nat.beq t1.1 1) (e 1) (sl (Nat.beq t1.1 2) (k ⟨t1.2.f8,W (s.is3+1)⟩) z)) z) (e 2))
def La3(p:Pb7)(s:Ia1):Stp Ia1:=rb9 .next .exit .fail p s
def fd6(x:List V3):ROq:=let t1:=(lp (La3 (⟨⟩:Pb7)) (⟨rt tV x,0⟩:Ia1));(sl ((cnE tV x)&&true) (sl (Nat.beq t1.1 1) (some (b false,[])) (sl (Nat.beq t1.1 2) (some (b true,[])) none)) none)
structure Je1 where
 f8:List V3
structure Je2 where
 is3:Int
structure Je3 where
 ie1:List V3
 (c9 e7 e8 A8:Int)
structure Je4 where
 is5:Int
structure Xe9 where
 V1:PLq
 (c9 e7 e8 A8:Int)
structure Ye0 where
 is5:Int
structure Je5 where
 f8:List V3
 (is6 is7:Int)
structure Je6 where
 ph:Nat
 is8:Int
 Ze9:PLq
structure Je7 where
 is6:Int
structure Je8 where
 ph:Nat
 f8:List V3
 is7:Int
 Ze9:PLq
structure Je9 where
structure Ke0 where
 ph:Nat
 f8:List V3
 is6:Int
 Ze9:PLq
def Ca8(x:V3)(y:V3):V3:=(⟨W (x.x-y.x),W (x.y-y.y),W (x.z-y.z)⟩:V3)
def Zb3:Sum:=Ha5 (Za5 tV) (Za5 tV) (λx y=>.ret ((one r1V).enc (Ca8 x y),[]))
theorem vc9:d9 prog G 123 Zb3:=ze9 (bd zf6 gb5)
def nd2:List (Nat×Sum):=[(123,Zb3)]
theorem fd7:l6 prog G nd2:=⟨vc9,trivial⟩
def Ia2(x:Pln):Pln:=let t1:=(Ca8 (⟨0,0,0⟩:V3) x.n);(⟨t1,W (0-x.b)⟩:Pln)
def wc0:Sum:=L6 (Za5 tP) (λx=>.ret ((one r1P).enc (Ia2 x),[]))
theorem nd3:d9 prog G 92 wc0:=ze8 (bd b92 fd7)
def nd4:List (Nat×Sum):=[(134,gb6)]
theorem fd8:l6 prog G nd4:=⟨Jb8,trivial⟩
def Va4(x:V3):ROq:=let t1:=(ca4 [x.x,x.y,x.z]);(sl (ca5 [x.x,x.y,x.z]) (sl (t1==0) (some (.tup [.agg [i 0,i 0,i 0],i 0],[])) (sl (t1==0) none (sl (t1==0) none (sl (t1==0) none (some (.tup [.agg [i (W (Int.tdiv x.x t1)),i (W (Int.tdiv x.y t1)),i (W (Int.tdiv x.z t1))],i t1],[])))))) none)
def Ia3(x:V3):V3×Int:=O8 (two r1V r1I) (Va4 x)
def lb9(x:V3):Bool:=okO (two r1V r1I) (Va4 x)
def wc1:Sum:=L6 (Za5 tV) (λx=>.guard (lb9 x) (.ret ((two r1V r1I).enc (Ia3 x),[])))
theorem nd5:d9 prog G 122 wc1:=Ra7 (bd zf5 fd8) (two r1V r1I) (o:=Va4)
def Gc1:List (Nat×Sum):=[(62,rb5),(123,Zb3),(114,Cb8),(122,wc1),(100,Ab3)]
theorem wc2:l6 prog G Gc1:=⟨Ab5,vc9,Zb1,nd5,Pb2,trivial⟩
def xa9(x:V3)(y:V3)(z:V3):ROq:=let y0:=(.tup [.agg [i 0,i 0,i 0,i 0],b false],[]);let t1:=(wa6 x);let t2:=(wa6 y);let t3:=(wa6 z);let t4:=(Ca8 y x);let t5:=(Ca8 z x);let t6:=(fa6 t4 t5);let t7:=(Ia3 t6);let t8:=(U4 t7.1 x);(sl (wa7 x) (sl (!t1) (some y0) (sl (wa7 y) (sl (!t2) (some y0) (sl (wa7 z) (sl (!t3) (some y0) (sl (lb9 t6) (some (.tup [.agg [i t7.1.x,i t7.1.y,i t7.1.z,i t8],b (decide (t7.2>0))],[])) none)) none)) none)) none)
def K8(x:V3)(y:V3)(z:V3):Pln×Bool:=O8 (two r1P r1B) (xa9 x y z)
def ma8(x:V3)(y:V3)(z:V3):Bool:=okO (two r1P r1B) (xa9 x y z)
def gb8:Sum:=Ub4 (Za5 tV) (Za5 tV) (Za5 tV) (λx y z=>.guard (ma8 x y z) (.ret ((two r1P r1B).enc (K8 x y z),[])))
theorem Kb1:d9 prog G 91 gb8:=Xe8 (bd b91 wc2) (two r1P r1B) (o:=xa9)
def nd6:List (Nat×Sum):=[(99,kc3),(62,rb5),(100,Ab3),(96,Cb9)]
theorem fd9:l6 prog G nd6:=⟨fd3,Ab5,Pb2,Zb2,trivial⟩
def Va5(x:Pln)(y:V3):ROq:=let t1:=(cb0 x);let t2:=(wa6 y);let t3:=(U4 x.n y);let t4:=(fa7 t3 x.b);(sl (cb1 x) (sl (!t1) (some (i 0,[])) (sl (wa7 y) (sl (!t2) (some (i 0,[])) (sl (fa8 t3 x.b) (some (i t4,[])) none)) none)) none)
def na9(x:Pln)(y:V3):Int:=O8 (one r1I) (Va5 x y)
def oa0(x:Pln)(y:V3):Bool:=okO (one r1I) (Va5 x y)
def Va6:Sum:=Ha5 (Za5 tP) (Za5 tV) (λx y=>.guard (oa0 x y) (.ret ((one r1I).enc (na9 x y),[])))
theorem cb3:d9 prog G 65 Va6:=Yb9 (bd b65 fd9) (one r1I) (o:=Va5)
structure Db4 where
 (fb3 fb4 fb5 c9 e7 e8 A8:Int)
def gd0:List (Nat×Sum):=[(65,Va6)]
theorem Qc2:l6 prog G gd0:=⟨cb3,trivial⟩
structure Db5 where
 alt:Nat
 bs0:Bool
def Db6{α:Type}(kk:Db5->α)(x:Db4):α:=let y1:=(⟨x.fb3,x.fb4,x.fb5⟩:V3);let y0:=(⟨(⟨x.c9,x.e7,x.e8⟩:V3),x.A8⟩:Pln);let t1:=(na9 y0 y1);(sl (oa0 y0 y1) (kk ⟨1,t1 != 0⟩) (kk ⟨0,false⟩))
def cb4(x:Db4):Db5:=Db6 (λr=>r) x
def Zb4(x:Db4)(r:Db5):DT (a7×List b7):=(xa6 r.alt 1 (b r.bs0,[bq 0 4 [[i x.c9,i x.e7,i x.e8,i x.A8]]]) .fail)
def kc5:Sum:=va9 ⟨[.agg (kLq 3),sPq 0],[⟨0,4,true,some [kLq 4]⟩],λa H=>(⟨cIq a 0 0,cIq a 0 1,cIq a 0 2,hIq H 0 0 0,hIq H 0 0 1,hIq H 0 0 2,hIq H 0 0 3⟩,())⟩ (λx=>Zb4 x (cb4 x))
theorem gd1:d9 prog G 118 kc5:=r5 (enc:=λx=>⟨[.agg [i x.fb3,i x.fb4,i x.fb5],.ptr 0 0 0 0],[bq 0 4 [[i x.c9,i x.e7,i x.e8,i x.A8]]]⟩) (λa H=>by kernel_rfl) (bd zf2 Qc2) λx=>ha4 (mEq @Db6 (λr=>(Zb4 x r).run) x)
structure ra6 where
 f8:List V3
 (c9 e7 e8 A8:Int)
def La4:List (Nat×Sum):=[(118,kc5)]
theorem xb1:l6 prog G La4:=⟨gd1,trivial⟩
structure L7 where
 f8:List V3
 (is7 c9 e7 e8 A8:Int)
structure m9 where
 is8:Int
def Ca9(p:L7)(s:m9):St:=⟨eL tV p.f8::.fn 118 [.ptr 0 0 0 0]::ra 5 (i p.is7::i s.is8::ra 10 []),[bq 0 4 [[i p.c9,i p.e7,i p.e8,i p.A8]]]⟩
def Q0{α:Type}(k:m9->α)(e:Nat->α)(z:α)(p:L7)(s:m9):α:=let y0:=(gL tV p.f8 s.is8.toNat);let t1:=(cb4 ⟨y0.x,y0.y,y0.z,p.c9,p.e7,p.e8,p.A8⟩);(sl (decide (s.is8<p.is7)) (sl (inB s.is8 (List.length p.f8)) (sl (Nat.beq t1.alt 1) (sl t1.bs0 (e 1) (k ⟨W (s.is8+1)⟩)) z) z) (e 2))
def J7(p:L7)(s:m9):Stp m9:=Q0 .next .exit .fail p s
def ka9:Lo L7 m9:=⟨En La4,1,Nc8,[1,0,1,4,4],[0,1,7,8],.p,[⟨sLq tV::.fn 118 [.o (.ptr 0 0 0 0)]::ru2 5 (sIq::sIq::ru2 10 []),[⟨0,4,true,some [kLq 4]⟩],λa H=>(⟨aLq tV a 0,aIq a 7,hIq H 0 0 0,hIq H 0 0 1,hIq H 0 0 2,hIq H 0 0 3⟩,⟨aIq a 8⟩)⟩],J7,[(none,λp s=>⟨[i s.is8],[bq 0 4 [[i p.c9,i p.e7,i p.e8,i p.A8]]]⟩),(some 0,λp s=>upq (Ca9 p s) [(9,b (decide (s.is8<p.is7)))])],Ca9⟩
theorem sb0:ka9.Ok:=Lo.okq [] .nil λp s=>(.ofq @Q0)
structure ra7 where
 alt:Nat
 is0:Int
def ra8{α:Type}(kk:ra7->α)(x:ra6):α:=let t1:=(lp (J7 (⟨rt tV x.f8,(↑(List.length x.f8):Int),x.c9,x.e7,x.e8,x.A8⟩:L7)) (⟨0⟩:m9));(sl ((cnE tV x.f8)&&true) (sl (Nat.beq t1.1 1) (kk ⟨1,t1.2.is8⟩) (sl (Nat.beq t1.1 2) (kk ⟨1,-1⟩) (kk ⟨0,0⟩))) (kk ⟨0,0⟩))
def aa2(x:ra6):ra7:=ra8 (λr=>r) x
def La5(x:ra6)(r:ra7):DT (a7×List b7):=(xa6 r.alt 1 (i r.is0,[bq 0 4 [[i x.c9,i x.e7,i x.e8,i x.A8]]]) .fail)
def Ra9:Sum:=va9 ⟨[sLq tV,.fn 118 [.o (.ptr 0 0 0 0)]],[⟨0,4,true,some [kLq 4]⟩],λa H=>(⟨aLq tV a 0,hIq H 0 0 0,hIq H 0 0 1,hIq H 0 0 2,hIq H 0 0 3⟩,())⟩ (λx=>La5 x (aa2 x))
theorem Db7:d9 prog G 109 Ra9:=r5 (enc:=λx=>⟨[eL tV x.f8,.fn 118 [.ptr 0 0 0 0]],[bq 0 4 [[i x.c9,i x.e7,i x.e8,i x.A8]]]⟩) (λa H=>by kernel_rfl) (bd Wd8 xb1) λx=>ha5 (.s .p (.s (.s .p (.b (.u ka9.ls))) .p)) [ka9.pr] (.cons sb0 .nil) (mEq @ra8 (λr=>(La5 x r).run) x)
def mb0:List (Nat×Sum):=[(109,Ra9)]
theorem gb9:l6 prog G mb0:=⟨Db7,trivial⟩
def ha9{α:Type}(kk:Db5->α)(x:ra6):α:=let t1:=(aa2 ⟨rt tV x.f8,x.c9,x.e7,x.e8,x.A8⟩);(sl ((cnE tV x.f8)&&true) (sl (Nat.beq t1.alt 1) (kk ⟨1,decide (t1.is0>=0)⟩) (kk ⟨0,false⟩)) (kk ⟨0,false⟩))
def p5(x:ra6):Db5:=ha9 (λr=>r) x
def Aa6(x:ra6)(r:Db5):DT (a7×List b7):=(xa6 r.alt 1 (b r.bs0,[bq 0 4 [[i x.c9,i x.e7,i x.e8,i x.A8]]]) .fail)
def Da0:Sum:=va9 ⟨[sLq tV,.fn 118 [.o (.ptr 0 0 0 0)]],[⟨0,4,true,some [kLq 4]⟩],λa H=>(⟨aLq tV a 0,hIq H 0 0 0,hIq H 0 0 1,hIq H 0 0 2,hIq H 0 0 3⟩,())⟩ (λx=>Aa6 x (p5 x))
theorem mb1:d9 prog G 74 Da0:=r5 (enc:=λx=>⟨[eL tV x.f8,.fn 118 [.ptr 0 0 0 0]],[bq 0 4 [[i x.c9,i x.e7,i x.e8,i x.A8]]]⟩) (λa H=>by kernel_rfl) (bd b74 gb9) λx=>ha4 (mEq @ha9 (λr=>(Aa6 x r).run) x)
@[reducible] noncomputable def ra9:Sum:=Mc2 (En tbN) of0
theorem ya0:d9 prog G 58 ra9:=bd b58 gb5
def mb2:List (Nat×Sum):=[(91,gb8),(74,Da0),(58,ra9)]
theorem nd7:l6 prog G mb2:=⟨Kb1,mb1,ya0,trivial⟩
structure fa9 where
 (is3 is4 is9 C8 Ya3 M7 Uc5:Int)
 (a8 g8:List V3)
structure K9 where
 M8:Int
def Zb5(p:fa9)(s:K9):St:=⟨.unk::.ptr 0 0 0 0::.unk::i p.is3::i p.is4::ra 4 (i p.is9::i p.C8::ra 5 (i p.Ya3::i p.M7::ra 5 (i p.Uc5::i s.M8::ra 35 (i 0::.unk::.ptr 1 0 0 0::.ptr 2 0 0 0::ra 8 [])))),[bq 0 1 [[eL tV p.a8]],bq 0 1 [[eL tV p.g8]],bq 0 1 [[b false]]]⟩
def Pa6{α:Type}(k:K9->α)(e:Nat->α)(z:α)(p:fa9)(s:K9):α:=let y0:=(List.length p.a8);let t1:=(K8 (gL tV p.a8 s.M8.toNat) (gL tV p.a8 p.is4.toNat) (gL tV p.a8 p.is3.toNat));let t2:=(p5 ⟨rt tV p.g8,t1.1.n.x,t1.1.n.y,t1.1.n.z,t1.1.b⟩);(sl (decide (s.M8<p.Uc5)) (sl (inB s.M8 y0) (sl (inB p.is4 y0) (sl (inB p.is3 y0) (sl (ma8 (gL tV p.a8 s.M8.toNat) (gL tV p.a8 p.is4.toNat) (gL tV p.a8 p.is3.toNat)) (sl t1.2 (sl t1.2 (sl ((cnE tV p.g8)&&true) (sl (Nat.beq t2.alt 1) (e 1) z) z) (k ⟨W (s.M8+1)⟩)) (sl t1.2 z (k ⟨W (s.M8+1)⟩))) z) z) z) z) (e 2))
def R7(p:fa9)(s:K9):Stp K9:=Pa6 .next .exit .fail p s
def Db8:Lo fa9 K9:=⟨En mb2,0,Oe7,[1,0,1,4,4,1,4,4,1,1,0,4,1,1,4,4,1,1,0,4,1,1,4,4],[1,3,4,9,10,16,17,23,24,60,62,63],.p,[⟨sUq::sPq 0::sUq::sIq::sIq::ru2 4 (sIq::sIq::ru2 5 (sIq::sIq::ru2 5 (sIq::sIq::ru2 35 (.s (.o (.lit .i64 0))::sUq::sPq 1::sPq 2::ru2 8 [])))),[⟨0,1,true,some [[.c 3 (nL tV)]]⟩,⟨0,1,true,some [[.c 3 (nL tV)]]⟩,⟨0,1,true,some [[.o (.blit false)]]⟩],λa H=>(⟨aIq a 3,aIq a 4,aIq a 9,aIq a 10,aIq a 16,aIq a 17,aIq a 23,hLq tV H 0 0 0,hLq tV H 1 0 0⟩,⟨aIq a 24⟩)⟩],R7,[(none,λp s=>let t1:=(K8 (gL tV p.a8 s.M8.toNat) (gL tV p.a8 p.is4.toNat) (gL tV p.a8 p.is3.toNat));let t2:=(p5 ⟨rt tV p.g8,t1.1.n.x,t1.1.n.y,t1.1.n.z,t1.1.b⟩);⟨.unk::.ptr 0 0 0 0::.unk::i p.is3::i p.is4::i s.M8::.ptr 3 0 0 0::b t1.2::.unk::i p.is9::i p.C8::ra 5 (i p.Ya3::i p.M7::ra 5 (i p.Uc5::i s.M8::b (decide (s.M8<p.Uc5))::i s.M8::.tup [.agg [i t1.1.n.x,i t1.1.n.y,i t1.1.n.z,i t1.1.b],b t1.2]::eL tV p.a8::i s.M8::.tptr [i (gL tV p.a8 s.M8.toNat).x,i (gL tV p.a8 s.M8.toNat).y,i (gL tV p.a8 s.M8.toNat).z]::.agg [i (gL tV p.a8 s.M8.toNat).x,i (gL tV p.a8 s.M8.toNat).y,i (gL tV p.a8 s.M8.toNat).z]::eL tV p.a8::i p.is4::.tptr [i (gL tV p.a8 p.is4.toNat).x,i (gL tV p.a8 p.is4.toNat).y,i (gL tV p.a8 p.is4.toNat).z]::.agg [i (gL tV p.a8 p.is4.toNat).x,i (gL tV p.a8 p.is4.toNat).y,i (gL tV p.a8 p.is4.toNat).z]::eL tV p.a8::i p.is3::.tptr [i (gL tV p.a8 p.is3.toNat).x,i (gL tV p.a8 p.is3.toNat).y,i (gL tV p.a8 p.is3.toNat).z]::.agg [i (gL tV p.a8 p.is3.toNat).x,i (gL tV p.a8 p.is3.toNat).y,i (gL tV p.a8 p.is3.toNat).z]::.tup [.agg [i t1.1.n.x,i t1.1.n.y,i t1.1.n.z,i t1.1.b],b t1.2]::.agg [i t1.1.n.x,i t1.1.n.y,i t1.1.n.z,i t1.1.b]::b t1.2::b t1.2::b true::.unk::.agg [i t1.1.n.x,i t1.1.n.y,i t1.1.n.z,i t1.1.b]::b false::b true::b true::.unk::u::u::u::u::b true::b true::ra 3 (i 1::.unk::.ptr 1 0 0 0::.ptr 2 0 0 0::ra 8 []))),[bq 0 1 [[eL tV p.a8]],bq 0 1 [[eL tV p.g8]],bq 0 1 [[b (!t2.bs0)]],bq 0 4 [[i t1.1.n.x,i t1.1.n.y,i t1.1.n.z,i t1.1.b]],bq 0 4 [[i t1.1.n.x,i t1.1.n.y,i t1.1.n.z,i t1.1.b]]]⟩),(some 4,λp s=>upq (Zb5 p s) [(25,b (decide (s.M8<p.Uc5)))])],Zb5⟩
theorem gd2:Db8.OkM:=Lo.okMq [] .nil λp s=>(.ofq @Pa6)
structure pa5 where
 (is3 is9 C8 Ya3:Int)
structure N9 where
 M7:Int
 (a8 g8:List V3)
def Zb6(p:pa5)(s:N9):St:=⟨.unk::.ptr 0 0 0 0::.unk::i p.is3::ra 5 (i p.is9::i p.C8::ra 5 (i p.Ya3::i s.M7::ra 42 (i 0::.unk::.ptr 1 0 0 0::.ptr 2 0 0 0::ra 8 []))),[bq 0 1 [[eL tV s.a8]],bq 0 1 [[eL tV s.g8]],bq 0 1 [[b false]]]⟩
def Pa7{α:Type}(k:N9->α)(e:Nat->α)(z:α)(p:pa5)(s:N9):α:=let t1:=(lp (R7 (⟨p.is3,s.M7,p.is9,p.C8,p.Ya3,s.M7,(↑(s.M7.toNat-0):Int),rt tV s.a8,rt tV s.g8⟩:fa9)) (⟨0⟩:K9));(sl (decide (s.M7<p.Ya3)) (sl (inB s.M7 ((List.length s.a8)+1)) (sl ((cnE tV s.a8)&&((cnE tV s.g8)&&true)) (sl (Nat.beq t1.1 1) (e 1) (sl (Nat.beq t1.1 2) (k ⟨W (s.M7+1),rt tV s.a8,rt tV s.g8⟩) z)) z) z) (e 2))
def Z1(p:pa5)(s:N9):Stp N9:=Pa7 .next .exit .fail p s
def Db9:Lo pa5 N9:=⟨En mb2,0,Oe7,[1,0,1,4,4,1,4,4,1,1,0,4,1,1,4,4],[1,3,9,10,16,17,60,62,63],.s .p (.s .p (.s (.b (.s .p (.s .p (.b (.u Db8.lsM))))) .p)),[⟨sUq::sPq 0::sUq::sIq::ru2 5 (sIq::sIq::ru2 5 (sIq::sIq::ru2 42 (.s (.o (.lit .i64 0))::sUq::sPq 1::sPq 2::ru2 8 []))),[⟨0,1,true,some [[.c 3 (nL tV)]]⟩,⟨0,1,true,some [[.c 3 (nL tV)]]⟩,⟨0,1,true,some [[.o (.blit false)]]⟩],λa H=>(⟨aIq a 3,aIq a 9,aIq a 10,aIq a 16⟩,⟨aIq a 17,hLq tV H 0 0 0,hLq tV H 1 0 0⟩)⟩],Z1,[(none,λp s=>let t1:=(lp (R7 (⟨p.is3,s.M7,p.is9,p.C8,p.Ya3,s.M7,(↑(s.M7.toNat-0):Int),rt tV s.a8,rt tV s.g8⟩:fa9)) (⟨0⟩:K9));let t2:=(K8 (gL tV (rt tV s.a8) t1.2.M8.toNat) (gL tV (rt tV s.a8) s.M7.toNat) (gL tV (rt tV s.a8) p.is3.toNat));let t3:=(p5 ⟨rt tV (rt tV s.g8),t2.1.n.x,t2.1.n.y,t2.1.n.z,t2.1.b⟩);⟨.unk::.ptr 0 0 0 0::.unk::i p.is3::i s.M7::i t1.2.M8::.ptr 3 0 0 0::b t2.2::.unk::i p.is9::i p.C8::ra 5 (i p.Ya3::i s.M7::ra 5 (i (↑(s.M7.toNat-0):Int)::i t1.2.M8::b (decide (t1.2.M8<(↑(s.M7.toNat-0):Int)))::i t1.2.M8::.tup [.agg [i t2.1.n.x,i t2.1.n.y,i t2.1.n.z,i t2.1.b],b t2.2]::eL tV (rt tV s.a8)::i t1.2.M8::.tptr [i (gL tV (rt tV s.a8) t1.2.M8.toNat).x,i (gL tV (rt tV s.a8) t1.2.M8.toNat).y,i (gL tV (rt tV s.a8) t1.2.M8.toNat).z]::.agg [i (gL tV (rt tV s.a8) t1.2.M8.toNat).x,i (gL tV (rt tV s.a8) t1.2.M8.toNat).y,i (gL tV (rt tV s.a8) t1.2.M8.toNat).z]::eL tV (rt tV s.a8)::i s.M7::.tptr [i (gL tV (rt tV s.a8) s.M7.toNat).x,i (gL tV (rt tV s.a8) s.M7.toNat).y,i (gL tV (rt tV s.a8) s.M7.toNat).z]::.agg [i (gL tV (rt tV s.a8) s.M7.toNat).x,i (gL tV (rt tV s.a8) s.M7.toNat).y,i (gL tV (rt tV s.a8) s.M7.toNat).z]::eL tV (rt tV s.a8)::i p.is3::.tptr [i (gL tV (rt tV s.a8) p.is3.toNat).x,i (gL tV (rt tV s.a8) p.is3.toNat).y,i (gL tV (rt tV s.a8) p.is3.toNat).z]::.agg [i (gL tV (rt tV s.a8) p.is3.toNat).x,i (gL tV (rt tV s.a8) p.is3.toNat).y,i (gL tV (rt tV s.a8) p.is3.toNat).z]::.tup [.agg [i t2.1.n.x,i t2.1.n.y,i t2.1.n.z,i t2.1.b],b t2.2]::.agg [i t2.1.n.x,i t2.1.n.y,i t2.1.n.z,i t2.1.b]::b t2.2::b t2.2::b true::.unk::.agg [i t2.1.n.x,i t2.1.n.y,i t2.1.n.z,i t2.1.b]::b false::b true::b true::.unk::u::u::u::u::b true::b true::ra 3 (i 1::.unk::.ptr 1 0 0 0::.ptr 2 0 0 0::ra 8 []))),[bq 0 1 [[eL tV (rt tV s.a8)]],bq 0 1 [[eL tV (rt tV s.g8)]],bq 0 1 [[b (!t3.bs0)]],bq 0 4 [[i t2.1.n.x,i t2.1.n.y,i t2.1.n.z,i t2.1.b]],bq 0 4 [[i t2.1.n.x,i t2.1.n.y,i t2.1.n.z,i t2.1.b]]]⟩),(some 2,λp s=>upq (Zb6 p s) [(18,b (decide (s.M7<p.Ya3)))])],Zb6⟩
theorem gd3:Db9.OkM:=Lo.okMq [Db8.prM] (.cons gd2 .nil) λp s=>(.ofq @Pa7)
structure X5 where
 C8:Int
 (a8 g8:List V3)
def Zb7(p:L3)(s:X5):St:=⟨.unk::.ptr 0 0 0 0::ra 7 (i p.is9::i s.C8::ra 49 (i 0::.unk::.ptr 1 0 0 0::.ptr 2 0 0 0::ra 8 [])),[bq 0 1 [[eL tV s.a8]],bq 0 1 [[eL tV s.g8]],bq 0 1 [[b false]]]⟩
def Pa8{α:Type}(k:X5->α)(e:Nat->α)(z:α)(p:L3)(s:X5):α:=let t1:=(lp (Z1 (⟨s.C8,p.is9,s.C8,(↑(s.C8.toNat-0):Int)⟩:pa5)) (⟨0,rt tV s.a8,rt tV s.g8⟩:N9));(sl (decide (s.C8<p.is9)) (sl (inB s.C8 ((List.length s.a8)+1)) (sl ((cnE tV s.a8)&&((cnE tV s.g8)&&true)) (sl (Nat.beq t1.1 1) (e 1) (sl (Nat.beq t1.1 2) (k ⟨W (s.C8+1),t1.2.a8,t1.2.g8⟩) z)) z) z) (e 2))
def sa0(p:L3)(s:X5):Stp X5:=Pa8 .next .exit .fail p s
def Eb0:Lo L3 X5:=⟨En mb2,0,Oe7,[1,0,1,4,4,1,4,4],[1,9,10,60,62,63],.s .p (.s .p (.s (.b (.s .p (.s .p (.b (.u Db9.lsM))))) .p)),[⟨sUq::sPq 0::ru2 7 (sIq::sIq::ru2 49 (.s (.o (.lit .i64 0))::sUq::sPq 1::sPq 2::ru2 8 [])),[⟨0,1,true,some [[.c 3 (nL tV)]]⟩,⟨0,1,true,some [[.c 3 (nL tV)]]⟩,⟨0,1,true,some [[.o (.blit false)]]⟩],λa H=>(⟨aIq a 9⟩,⟨aIq a 10,hLq tV H 0 0 0,hLq tV H 1 0 0⟩)⟩],sa0,[(none,λp s=>let t1:=(lp (Z1 (⟨s.C8,p.is9,s.C8,(↑(s.C8.toNat-0):Int)⟩:pa5)) (⟨0,rt tV s.a8,rt tV s.g8⟩:N9));let t2:=(lp (R7 (⟨s.C8,t1.2.M7,p.is9,s.C8,(↑(s.C8.toNat-0):Int),t1.2.M7,(↑(t1.2.M7.toNat-0):Int),rt tV t1.2.a8,rt tV t1.2.g8⟩:fa9)) (⟨0⟩:K9));let t3:=(K8 (gL tV (rt tV t1.2.a8) t2.2.M8.toNat) (gL tV (rt tV t1.2.a8) t1.2.M7.toNat) (gL tV (rt tV t1.2.a8) s.C8.toNat));let t4:=(p5 ⟨rt tV (rt tV t1.2.g8),t3.1.n.x,t3.1.n.y,t3.1.n.z,t3.1.b⟩);⟨.unk::.ptr 0 0 0 0::.unk::i s.C8::i t1.2.M7::i t2.2.M8::.ptr 3 0 0 0::b t3.2::.unk::i p.is9::i s.C8::ra 5 (i (↑(s.C8.toNat-0):Int)::i t1.2.M7::ra 5 (i (↑(t1.2.M7.toNat-0):Int)::i t2.2.M8::b (decide (t2.2.M8<(↑(t1.2.M7.toNat-0):Int)))::i t2.2.M8::.tup [.agg [i t3.1.n.x,i t3.1.n.y,i t3.1.n.z,i t3.1.b],b t3.2]::eL tV (rt tV t1.2.a8)::i t2.2.M8::.tptr [i (gL tV (rt tV t1.2.a8) t2.2.M8.toNat).x,i (gL tV (rt tV t1.2.a8) t2.2.M8.toNat).y,i (gL tV (rt tV t1.2.a8) t2.2.M8.toNat).z]::.agg [i (gL tV (rt tV t1.2.a8) t2.2.M8.toNat).x,i (gL tV (rt tV t1.2.a8) t2.2.M8.toNat).y,i (gL tV (rt tV t1.2.a8) t2.2.M8.toNat).z]::eL tV (rt tV t1.2.a8)::i t1.2.M7::.tptr [i (gL tV (rt tV t1.2.a8) t1.2.M7.toNat).x,i (gL tV (rt tV t1.2.a8) t1.2.M7.toNat).y,i (gL tV (rt tV t1.2.a8) t1.2.M7.toNat).z]::.agg [i (gL tV (rt tV t1.2.a8) t1.2.M7.toNat).x,i (gL tV (rt tV t1.2.a8) t1.2.M7.toNat).y,i (gL tV (rt tV t1.2.a8) t1.2.M7.toNat).z]::eL tV (rt tV t1.2.a8)::i s.C8::.tptr [i (gL tV (rt tV t1.2.a8) s.C8.toNat).x,i (gL tV (rt tV t1.2.a8) s.C8.toNat).y,i (gL tV (rt tV t1.2.a8) s.C8.toNat).z]::.agg [i (gL tV (rt tV t1.2.a8) s.C8.toNat).x,i (gL tV (rt tV t1.2.a8) s.C8.toNat).y,i (gL tV (rt tV t1.2.a8) s.C8.toNat).z]::.tup [.agg [i t3.1.n.x,i t3.1.n.y,i t3.1.n.z,i t3.1.b],b t3.2]::.agg [i t3.1.n.x,i t3.1.n.y,i t3.1.n.z,i t3.1.b]::b t3.2::b t3.2::b true::.unk::.agg [i t3.1.n.x,i t3.1.n.y,i t3.1.n.z,i t3.1.b]::b false::b true::b true::.unk::u::u::u::u::b true::b true::ra 3 (i 1::.unk::.ptr 1 0 0 0::.ptr 2 0 0 0::ra 8 []))),[bq 0 1 [[eL tV (rt tV t1.2.a8)]],bq 0 1 [[eL tV (rt tV t1.2.g8)]],bq 0 1 [[b (!t4.bs0)]],bq 0 4 [[i t3.1.n.x,i t3.1.n.y,i t3.1.n.z,i t3.1.b]],bq 0 4 [[i t3.1.n.x,i t3.1.n.y,i t3.1.n.z,i t3.1.b]]]⟩),(some 0,λp s=>upq (Zb7 p s) [(11,b (decide (s.C8<p.is9)))])],Zb7⟩
theorem gd4:Eb0.OkM:=Lo.okMq [Db9.prM] (.cons gd3 .nil) λp s=>(.ofq @Pa8)
def db7(x:List V3):ROq:=let y1:=(↑(List.length x):Int);let t1:=(lp (sa0 (⟨y1⟩:L3)) (⟨0,rt tV x,rt tV x⟩:X5));let t2:=(lp (Z1 (⟨t1.2.C8,y1,t1.2.C8,(↑(t1.2.C8.toNat-0):Int)⟩:pa5)) (⟨0,rt tV t1.2.a8,rt tV t1.2.g8⟩:N9));let y0:=(rt tV t2.2.a8);let t3:=(lp (R7 (⟨t1.2.C8,t2.2.M7,y1,t1.2.C8,(↑(t1.2.C8.toNat-0):Int),t2.2.M7,(↑(t2.2.M7.toNat-0):Int),y0,rt tV t2.2.g8⟩:fa9)) (⟨0⟩:K9));let t4:=(K8 (gL tV y0 t3.2.M8.toNat) (gL tV y0 t2.2.M7.toNat) (gL tV y0 t1.2.C8.toNat));let t5:=(p5 ⟨rt tV (rt tV t2.2.g8),t4.1.n.x,t4.1.n.y,t4.1.n.z,t4.1.b⟩);(sl ((cnE tV x)&&((cnE tV x)&&true)) (sl (Nat.beq t1.1 1) (some (b (!t5.bs0),[])) (sl (Nat.beq t1.1 2) (some (b true,[])) none)) none)
def Ab6(x:List V3):Bool:=O8 (one r1B) (db7 x)
def Ab7(x:List V3):Bool:=okO (one r1B) (db7 x)
def Nc9:Sum:=L6 (db5 tV) (λx=>.guard (Ab7 x) (.ret ((one r1B).enc (Ab6 x),[])))
theorem Ad3:d9 prog G 86 Nc9:=Ec5 (bd b86 nd7) (one r1B) (o:=db7) λx=>fd1 (.s .p (.s (.s .p (.b (.i (.s .p (.b (.u Eb0.lsM)))))) .p)) [Eb0.prM] (.cons gd4 .nil)
def Gc2:List (Nat×Sum):=[(65,Va6)]
theorem wc3:l6 prog G Gc2:=⟨cb3,trivial⟩
def hb7{α:Type}(kk:Db5->α)(x:Db4):α:=let y1:=(⟨x.fb3,x.fb4,x.fb5⟩:V3);let y0:=(⟨(⟨x.c9,x.e7,x.e8⟩:V3),x.A8⟩:Pln);let t1:=(na9 y0 y1);(sl (oa0 y0 y1) (kk ⟨1,decide (t1>0)⟩) (kk ⟨0,false⟩))
def Pa9(x:Db4):Db5:=hb7 (λr=>r) x
def Kb2(x:Db4)(r:Db5):DT (a7×List b7):=(xa6 r.alt 1 (b r.bs0,[bq 0 4 [[i x.c9,i x.e7,i x.e8,i x.A8]]]) .fail)
def Sb1:Sum:=va9 ⟨[.agg (kLq 3),sPq 0],[⟨0,4,true,some [kLq 4]⟩],λa H=>(⟨cIq a 0 0,cIq a 0 1,cIq a 0 2,hIq H 0 0 0,hIq H 0 0 1,hIq H 0 0 2,hIq H 0 0 3⟩,())⟩ (λx=>Kb2 x (Pa9 x))
theorem Gc3:d9 prog G 93 Sb1:=r5 (enc:=λx=>⟨[.agg [i x.fb3,i x.fb4,i x.fb5],.ptr 0 0 0 0],[bq 0 4 [[i x.c9,i x.e7,i x.e8,i x.A8]]]⟩) (λa H=>by kernel_rfl) (bd b93 wc3) λx=>ha4 (mEq @hb7 (λr=>(Kb2 x r).run) x)
def La7:List (Nat×Sum):=[(93,Sb1)]
theorem xb2:l6 prog G La7:=⟨Gc3,trivial⟩
def Da1(p:L7)(s:m9):St:=⟨eL tV p.f8::.fn 93 [.ptr 0 0 0 0]::ra 5 (i p.is7::i s.is8::ra 10 []),[bq 0 4 [[i p.c9,i p.e7,i p.e8,i p.A8]]]⟩
def Q1{α:Type}(k:m9->α)(e:Nat->α)(z:α)(p:L7)(s:m9):α:=let y0:=(gL tV p.f8 s.is8.toNat);let t1:=(Pa9 ⟨y0.x,y0.y,y0.z,p.c9,p.e7,p.e8,p.A8⟩);(sl (decide (s.is8<p.is7)) (sl (inB s.is8 (List.length p.f8)) (sl (Nat.beq t1.alt 1) (sl t1.bs0 (e 1) (k ⟨W (s.is8+1)⟩)) z) z) (e 2))
def J8(p:L7)(s:m9):Stp m9:=Q1 .next .exit .fail p s
def la0:Lo L7 m9:=⟨En La7,1,Nc8,[1,0,1,4,4],[0,1,7,8],.p,[⟨sLq tV::.fn 93 [.o (.ptr 0 0 0 0)]::ru2 5 (sIq::sIq::ru2 10 []),[⟨0,4,true,some [kLq 4]⟩],λa H=>(⟨aLq tV a 0,aIq a 7,hIq H 0 0 0,hIq H 0 0 1,hIq H 0 0 2,hIq H 0 0 3⟩,⟨aIq a 8⟩)⟩],J8,[(none,λp s=>⟨[i s.is8],[bq 0 4 [[i p.c9,i p.e7,i p.e8,i p.A8]]]⟩),(some 0,λp s=>upq (Da1 p s) [(9,b (decide (s.is8<p.is7)))])],Da1⟩
theorem sb1:la0.Ok:=Lo.okq [] .nil λp s=>(.ofq @Q1)
def sa3{α:Type}(kk:ra7->α)(x:ra6):α:=let t1:=(lp (J8 (⟨rt tV x.f8,(↑(List.length x.f8):Int),x.c9,x.e7,x.e8,x.A8⟩:L7)) (⟨0⟩:m9));(sl ((cnE tV x.f8)&&true) (sl (Nat.beq t1.1 1) (kk ⟨1,t1.2.is8⟩) (sl (Nat.beq t1.1 2) (kk ⟨1,-1⟩) (kk ⟨0,0⟩))) (kk ⟨0,0⟩))
def aa3(x:ra6):ra7:=sa3 (λr=>r) x
def La8(x:ra6)(r:ra7):DT (a7×List b7):=(xa6 r.alt 1 (i r.is0,[bq 0 4 [[i x.c9,i x.e7,i x.e8,i x.A8]]]) .fail)
def Sa0:Sum:=va9 ⟨[sLq tV,.fn 93 [.o (.ptr 0 0 0 0)]],[⟨0,4,true,some [kLq 4]⟩],λa H=>(⟨aLq tV a 0,hIq H 0 0 0,hIq H 0 0 1,hIq H 0 0 2,hIq H 0 0 3⟩,())⟩ (λx=>La8 x (aa3 x))
theorem Eb1:d9 prog G 109 Sa0:=r5 (enc:=λx=>⟨[eL tV x.f8,.fn 93 [.ptr 0 0 0 0]],[bq 0 4 [[i x.c9,i x.e7,i x.e8,i x.A8]]]⟩) (λa H=>by kernel_rfl) (bd Wd8 xb2) λx=>ha5 (.s .p (.s (.s .p (.b (.u la0.ls))) .p)) [la0.pr] (.cons sb1 .nil) (mEq @sa3 (λr=>(La8 x r).run) x)
def mb3:List (Nat×Sum):=[(109,Sa0)]
theorem hb8:l6 prog G mb3:=⟨Eb1,trivial⟩
def ia2{α:Type}(kk:Db5->α)(x:ra6):α:=let t1:=(aa3 ⟨rt tV x.f8,x.c9,x.e7,x.e8,x.A8⟩);(sl ((cnE tV x.f8)&&true) (sl (Nat.beq t1.alt 1) (kk ⟨1,decide (t1.is0>=0)⟩) (kk ⟨0,false⟩)) (kk ⟨0,false⟩))
def R8(x:ra6):Db5:=ia2 (λr=>r) x
def Aa7(x:ra6)(r:Db5):DT (a7×List b7):=(xa6 r.alt 1 (b r.bs0,[bq 0 4 [[i x.c9,i x.e7,i x.e8,i x.A8]]]) .fail)
def Da2:Sum:=va9 ⟨[sLq tV,.fn 93 [.o (.ptr 0 0 0 0)]],[⟨0,4,true,some [kLq 4]⟩],λa H=>(⟨aLq tV a 0,hIq H 0 0 0,hIq H 0 0 1,hIq H 0 0 2,hIq H 0 0 3⟩,())⟩ (λx=>Aa7 x (R8 x))
theorem mb4:d9 prog G 74 Da2:=r5 (enc:=λx=>⟨[eL tV x.f8,.fn 93 [.ptr 0 0 0 0]],[bq 0 4 [[i x.c9,i x.e7,i x.e8,i x.A8]]]⟩) (λa H=>by kernel_rfl) (bd b74 hb8) λx=>ha4 (mEq @ia2 (λr=>(Aa7 x r).run) x)
def gd5:List (Nat×Sum):=[(74,Da2)]
theorem Qc3:l6 prog G gd5:=⟨mb4,trivial⟩
def La9(x:List V3)(y:Pln):ROq:=let t1:=(R8 ⟨rt tV x,y.n.x,y.n.y,y.n.z,y.b⟩);(sl ((cnE tV x)&&true) (sl (Nat.beq t1.alt 1) (some (b t1.bs0,[])) none) none)
def ga0(x:List V3)(y:Pln):Bool:=O8 (one r1B) (La9 x y)
def ga1(x:List V3)(y:Pln):Bool:=okO (one r1B) (La9 x y)
def kc6:Sum:=Ha5 (db5 tV) (Za5 tP) (λx y=>.guard (ga1 x y) (.ret ((one r1B).enc (ga0 x y),[])))
theorem gd6:d9 prog G 59 kc6:=Yb9 (bd b59 Qc3) (one r1B) (o:=La9)
def Qc4:List (Nat×Sum):=[(62,rb5)]
theorem Gc4:l6 prog G Qc4:=⟨Ab5,trivial⟩
def Da3(x:V3):ROq:=let t1:=(wa6 x);(sl (wa7 x) (some (b (!t1),[])) none)
def Va7(x:V3):Bool:=O8 (one r1B) (Da3 x)
def Va8(x:V3):Bool:=okO (one r1B) (Da3 x)
def Zb8:Sum:=L6 (Za5 tV) (λx=>.guard (Va8 x) (.ret ((one r1B).enc (Va7 x),[])))
theorem Qc5:d9 prog G 85 Zb8:=Ra7 (bd b85 Gc4) (one r1B) (o:=Da3)
structure sa4 where
 f8:List V3
def Ma0:List (Nat×Sum):=[(85,Zb8)]
theorem xb3:l6 prog G Ma0:=⟨Qc5,trivial⟩
structure L9 where
 f8:List V3
 is7:Int
def Da4(p:L9)(s:m9):St:=⟨eL tV p.f8::.fn 85 []::ra 5 (i p.is7::i s.is8::ra 10 []),[]⟩
def Q3{α:Type}(k:m9->α)(e:Nat->α)(z:α)(p:L9)(s:m9):α:=let t1:=(Va7 (gL tV p.f8 s.is8.toNat));(sl (decide (s.is8<p.is7)) (sl (inB s.is8 (List.length p.f8)) (sl (Va8 (gL tV p.f8 s.is8.toNat)) (sl t1 (e 1) (k ⟨W (s.is8+1)⟩)) z) z) (e 2))
def J9(p:L9)(s:m9):Stp m9:=Q3 .next .exit .fail p s
def la1:Lo L9 m9:=⟨En Ma0,0,Nc8,[1,0,1,4,4],[0,1,7,8],.p,[⟨sLq tV::.s (.o (.fn 85))::ru2 5 (sIq::sIq::ru2 10 []),[],λa H=>(⟨aLq tV a 0,aIq a 7⟩,⟨aIq a 8⟩)⟩],J9,[(none,λp s=>⟨[i s.is8],[]⟩),(some 0,λp s=>upq (Da4 p s) [(9,b (decide (s.is8<p.is7)))])],Da4⟩
theorem sb2:la1.Ok:=Lo.okq [] .nil λp s=>(.ofq @Q3)
def sa6{α:Type}(kk:ra7->α)(x:sa4):α:=let t1:=(lp (J9 (⟨rt tV x.f8,(↑(List.length x.f8):Int)⟩:L9)) (⟨0⟩:m9));(sl ((cnE tV x.f8)&&true) (sl (Nat.beq t1.1 1) (kk ⟨1,t1.2.is8⟩) (sl (Nat.beq t1.1 2) (kk ⟨1,-1⟩) (kk ⟨0,0⟩))) (kk ⟨0,0⟩))
def aa4(x:sa4):ra7:=sa6 (λr=>r) x
def Ma1(x:sa4)(r:ra7):DT (a7×List b7):=(xa6 r.alt 1 (i r.is0,[]) .fail)
def Sa1:Sum:=va9 ⟨[sLq tV,.s (.o (.fn 85))],[],λa H=>(⟨aLq tV a 0⟩,())⟩ (λx=>Ma1 x (aa4 x))
theorem Eb2:d9 prog G 109 Sa1:=r5 (enc:=λx=>⟨[eL tV x.f8,.fn 85 []],[]⟩) (λa H=>by kernel_rfl) (bd Wd8 xb3) λx=>ha5 (.s .p (.s (.s .p (.b (.u la1.ls))) .p)) [la1.pr] (.cons sb2 .nil) (mEq @sa6 (λr=>(Ma1 x r).run) x)
def mb5:List (Nat×Sum):=[(109,Sa1)]
theorem hb9:l6 prog G mb5:=⟨Eb2,trivial⟩
def ia5{α:Type}(kk:Db5->α)(x:sa4):α:=let t1:=(aa4 ⟨rt tV x.f8⟩);(sl ((cnE tV x.f8)&&true) (sl (Nat.beq t1.alt 1) (kk ⟨1,decide (t1.is0>=0)⟩) (kk ⟨0,false⟩)) (kk ⟨0,false⟩))
def R9(x:sa4):Db5:=ia5 (λr=>r) x
def Aa8(x:sa4)(r:Db5):DT (a7×List b7):=(xa6 r.alt 1 (b r.bs0,[]) .fail)
def Da5:Sum:=va9 ⟨[sLq tV,.s (.o (.fn 85))],[],λa H=>(⟨aLq tV a 0⟩,())⟩ (λx=>Aa8 x (R9 x))
theorem mb6:d9 prog G 74 Da5:=r5 (enc:=λx=>⟨[eL tV x.f8,.fn 85 []],[]⟩) (λa H=>by kernel_rfl) (bd b74 hb9) λx=>ha4 (mEq @ia5 (λr=>(Aa8 x r).run) x)
def nd8:List (Nat×Sum):=[(74,Da5),(86,Nc9)]
theorem gd7:l6 prog G nd8:=⟨mb6,Ad3,trivial⟩
def Va9(x:List V3):ROq:=let t1:=(R9 ⟨rt tV x⟩);let t2:=(Ab6 (rt tV x));(sl (decide ((↑(List.length x):Int)>48)) (some (i 2,[])) (sl ((cnE tV x)&&true) (sl (Nat.beq t1.alt 1) (sl t1.bs0 (some (i 3,[])) (sl (okE tV x) (sl (Ab7 (rt tV x)) (sl t2 (some (i 11,[])) (some (i 0,[]))) none) none)) none) none))
def wa8(x:List V3):Int:=O8 (one r1I) (Va9 x)
def wa9(x:List V3):Bool:=okO (one r1I) (Va9 x)
def Wa0:Sum:=L6 (db5 tV) (λx=>.guard (wa9 x) (.ret ((one r1I).enc (wa8 x),[])))
theorem cb5:d9 prog G 56 Wa0:=Ra7 (bd b56 gd7) (one r1I) (o:=Va9)
def Qa0(x:Int):Bool:=(x != x)
def Sb2:Sum:=L6 cI (λx=>.ret ((one r1B).enc (Qa0 x),[]))
theorem Gc5:d9 prog G 156 Sb2:=ze8 (bd zf8 gb5)
def qc1:List (Nat×Sum):=[(156,Sb2)]
theorem ic6:l6 prog G qc1:=⟨Gc5,trivial⟩
def oa1(x:Int)(y:Int):ROq:=let t1:=(Qa0 x);let t2:=(Qa0 y);(sl t1 (sl t2 (some (i 0,[])) (some (i (-1),[]))) (sl t2 (some (i 1,[])) (sl (decide (x<y)) (some (i (-1),[])) (sl (decide (x>y)) (some (i 1,[])) (some (i 0,[]))))))
def aa5(x:Int)(y:Int):Int:=O8 (one r1I) (oa1 x y)
def aa6(x:Int)(y:Int):Bool:=okO (one r1I) (oa1 x y)
def Ab8:Sum:=Ha5 cI cI (λx y=>.guard (aa6 x y) (.ret ((one r1I).enc (aa5 x y),[])))
theorem qc2:d9 prog G 121 Ab8:=Yb9 (bd zf4 ic6) (one r1I) (o:=oa1)
structure Da6 where
 Cb1:List Int
 is7:Int
def Sb3(p:Da6)(s:m9):St:=⟨ra 3 (i 0::.unk::.unk::eL tI p.Cb1::i p.is7::i s.is8::ra 9 []),[]⟩
def Kb3{α:Type}(k:m9->α)(e:Nat->α)(z:α)(p:Da6)(s:m9):α:=(sl (decide (s.is8<p.is7)) (sl (inB s.is8 (List.length p.Cb1)) (sl ((gL tI p.Cb1 s.is8.toNat) != 0) (e 1) (k ⟨W (s.is8+1)⟩)) z) (e 2))
def ca6(p:Da6)(s:m9):Stp m9:=Kb3 .next .exit .fail p s
def sb3:Lo Da6 m9:=⟨En tbN,0,Xe7,[1,1,0,1,4,4],[3,6,7,8],.p,[⟨ru2 3 (.s (.o (.lit .i64 0))::sUq::sUq::sLq tI::sIq::sIq::ru2 9 []),[],λa H=>(⟨aLq tI a 6,aIq a 7⟩,⟨aIq a 8⟩)⟩],ca6,[(none,λp s=>⟨[i (gL tI p.Cb1 s.is8.toNat)],[]⟩),(some 0,λp s=>upq (Sb3 p s) [(9,b (decide (s.is8<p.is7)))])],Sb3⟩
theorem Qc6:sb3.Ok:=Lo.okq [] .nil λp s=>(.ofq @Kb3)
def Wa1(x:List Int):ROq:=let t1:=(lp (ca6 (⟨rt tI x,(↑(List.length x):Int)⟩:Da6)) (⟨0⟩:m9));(sl ((cnE tI x)&&true) (sl (Nat.beq t1.1 1) (some (i (gL tI (rt tI x) t1.2.is8.toNat),[])) (sl (Nat.beq t1.1 2) (some (i 0,[])) none)) none)
def mb7(x:List Int):Int:=O8 (one r1I) (Wa1 x)
def mb8(x:List Int):Bool:=okO (one r1I) (Wa1 x)
def wc4:Sum:=L6 (db5 tI) (λx=>.guard (mb8 x) (.ret ((one r1I).enc (mb7 x),[])))
theorem nd9:d9 prog G 120 wc4:=Ec5 (bd zf3 gb5) (one r1I) (o:=Wa1) λx=>ha5 (.s .p (.s .p (.s (.s .p (.b (.u sb3.ls))) .p))) [sb3.pr] (.cons Qc6 .nil)
def Qc7:List (Nat×Sum):=[(121,Ab8),(120,wc4)]
theorem Gc6:l6 prog G Qc7:=⟨qc2,nd9,trivial⟩
def Da7(x:V3)(y:V3):ROq:=let t1:=(aa5 x.x y.x);let t2:=(aa5 x.y y.y);let t3:=(aa5 x.z y.z);let t4:=(mb7 [t1,t2,t3]);(sl (aa6 x.x y.x) (sl (aa6 x.y y.y) (sl (aa6 x.z y.z) (sl (mb8 [t1,t2,t3]) (some (i t4,[])) none) none) none) none)
def Wa2(x:V3)(y:V3):Int:=O8 (one r1I) (Da7 x y)
def Wa3(x:V3)(y:V3):Bool:=okO (one r1I) (Da7 x y)
def sb4:Sum:=Ha5 (Za5 tV) (Za5 tV) (λx y=>.guard (Wa3 x y) (.ret ((one r1I).enc (Wa2 x y),[])))
theorem Qc8:d9 prog G 88 sb4:=Yb9 (bd b88 Gc6) (one r1I) (o:=Da7)
end Go.Ev.Ce
namespace Go.Ev.L
open Go Go.Ev
theorem Oe8(n:Int):W n=(n+9223372036854775808) % 18446744073709551616-9223372036854775808:=IntKind.wrap_i64 n
theorem ia6{n:Int}(h1:-9223372036854775808<=n)(h2:n<=9223372036854775807):W n=n:=by rw[Oe8];omega
theorem Ae1(n:Int):∃k,W n=n+18446744073709551616*k:=⟨-((n+9223372036854775808) / 18446744073709551616),by rw[Oe8];omega⟩
theorem Gc7(n k:Int):W (n+18446744073709551616*k)=W n:=by rw[Oe8,Oe8];omega
theorem gd8(a b:Int):W (W a+b)=W (a+b):=by
 obtain⟨k,hk⟩:=Ae1 a;rw[hk,show a+18446744073709551616*k+b=a+b+18446744073709551616*k by omega,Gc7]
theorem Ad4(a b:Int):W (a+W b)=W (a+b):=by rw[Int.add_comm,gd8,Int.add_comm]
theorem Ae2(a b:Int):W (W a-b)=W (a-b):=by
 obtain⟨k,hk⟩:=Ae1 a;rw[hk,show a+18446744073709551616*k-b=a-b+18446744073709551616*k by omega,Gc7]
theorem Ae3(a b:Int):W (a-W b)=W (a-b):=by
 obtain⟨k,hk⟩:=Ae1 b;rw[hk,show a-(b+18446744073709551616*k)=a-b+18446744073709551616*(-k) by omega,Gc7]
theorem D2{j n:Nat}(h:j<n)(hn:n<=4611686018427387904):W ((j:Int)+1)=((j+1:Nat):Int):=by
 rw[ia6 (by omega) (by omega)];omega
theorem Da8{j n:Nat}(h:j<n):decide ((j:Int)<(n:Int))=true:=decide_eq_true (by omega)
theorem oa2{j n:Nat}(h:¬ j<n):decide ((j:Int)<(n:Int))=false:=decide_eq_false (by omega)
theorem i9{j n:Nat}(h:j<n):inB (j:Int) n=true:=by
 show Nat.blt j n=true;rw[Qcf];exact h
theorem bt{c:Bool}(h:c=true){α:Type}(t e:α):sl c t e=t:=by rw[h];rfl
theorem bf{c:Bool}(h:c=false){α:Type}(t e:α):sl c t e=e:=by rw[h];rfl
theorem Oe9{n:Nat}(h:n<=1000000000000):Nat.ble (n*32) room=true:=by
 rw[Nat.ble_eq];unfold room;omega
theorem Ae4{σ:Type}{step:σ->Stp σ}{I:Nat->σ->Prop}{Q:Nat->σ->Prop}(h:∀m s,I m s->(∃t,step s=.exit t/\Q t s)\/∃s' m',m=m'+1/\step s=.next s'/\I m' s') :
  ∀(m n:Nat) (s:σ),m<=n->I m s->Q (lp0 step n s).1 (lp0 step n s).2
 |m,n,s,hn,hi=>by
  rcases h m s hi with⟨t,h1,h2⟩|⟨s',m',rfl,h1,h2⟩
  ·rw[Id6 h1];exact h2
  ·cases n with
   |zero=>omega
   |succ n =>
    rw[Id5 h1];exact Ae4 h m' n s' (by omega) h2
theorem Zb9{σ:Type}{step:σ->Stp σ}{I:Nat->σ->Prop}{Q:Nat->σ->Prop}(h:∀m s,I m s->(∃t,step s=.exit t/\Q t s)\/∃s' m',m=m'+1/\step s=.next s'/\I m' s')
  (m:Nat) (s:σ) (hm:m<=18446744073709551615) (hi:I m s):Q (lp step s).1 (lp step s).2:=by
 rw[We8];exact Ae4 h m rounds s (by unfold rounds;omega) hi
section
variable{σ τ α:Type}{step:σ->Stp σ}
theorem Pe0{mk:Nat->τ->σ}{f:τ->α->τ}{fin:Nat}(t:Ty α)(l:List α)(I:Nat->τ->Prop)(hl:l.length<=1000000000)
  (h:∀j a,j<l.length->I j a->step (mk j a)=.next (mk (j+1) (f a (gL t l j)))/\I (j+1) (f a (gL t l j)))
  (hf:∀a,I l.length a->step (mk l.length a)=.exit fin) (j0:Nat) (hj:j0<=l.length) (a:τ) (hi:I j0 a) :
  lp step (mk j0 a)=(fin,mk l.length ((l.drop j0).foldl f a))/\I l.length ((l.drop j0).foldl f a):=by
 have key:=Zb9 (step:=step) (I:=λm s=>∃j b,m=l.length-j/\j<=l.length/\s=mk j b/\I j b/\(l.drop j).foldl f b=(l.drop j0).foldl f a)
  (Q:=λu s=>u=fin/\s=mk l.length ((l.drop j0).foldl f a)/\I l.length ((l.drop j0).foldl f a)) (λm s ⟨j,b,hm,hj,hs,hb,he⟩=>by
   subst hs;by_cases hlt:j<l.length
   ·obtain⟨h1,h2⟩:=h j b hlt hb;refine .inr ⟨_,l.length-(j+1),by omega,h1,j+1,_,rfl,by omega,rfl,h2,?_⟩
    rw[<- he,Qha hlt,List.foldl_cons];simp[gL,Qda,Qaa hlt]
   ·have:j=l.length:=by omega
    subst this;have he:b=(l.drop j0).foldl f a:=by rw[<- he];simp
    subst he;exact .inl ⟨fin,hf _ hb,rfl,rfl,hb⟩) (l.length-j0) (mk j0 a) (by omega) ⟨j0,a,rfl,hj,rfl,hi,rfl⟩
 exact⟨by rw[<- key.2.1,<- key.1],key.2.2⟩
theorem Xd0{mk:Nat->σ}{c:α->Bool}{u fin:Nat}(t:Ty α)(l:List α)(hl:l.length<=1000000000)
  (h:∀j,j<l.length->step (mk j)=sl (c (gL t l j)) (.exit u) (.next (mk (j+1)))) (hf:step (mk l.length)=.exit fin) (j0:Nat) (hj:j0<=l.length) :
  (lp step (mk j0)).1=if (l.drop j0).any c then u else fin :=
 Zb9 (step:=step) (I:=λm s=>∃j,m=l.length-j/\j<=l.length/\s=mk j/\(l.drop j).any c=(l.drop j0).any c)
  (Q:=λv _=>v=if (l.drop j0).any c then u else fin) (λm s ⟨j,hm,hj,hs,he⟩=>by
   subst hs;by_cases hlt:j<l.length
   ·have h1:=h j hlt;have e:gL t l j=l[j]:=by simp[gL,Qda,Qaa hlt]
    have e2:(l.drop j).any c=(c l[j]||(l.drop (j+1)).any c):=by rw[Qha hlt,List.any_cons]
    rw[e] at h1;cases hc:c l[j] with
    |true =>
     rw[hc] at h1;refine .inl ⟨u,h1,?_⟩;rw[<- he,e2,hc];rfl
    |false =>
     rw[hc] at h1;refine .inr ⟨_,l.length-(j+1),by omega,h1,j+1,rfl,by omega,rfl,?_⟩
     rw[<- he,e2,hc];rfl
   ·have:j=l.length:=by omega
    subst this;refine .inl ⟨fin,hf,?_⟩;rw[<- he];simp) (l.length-j0) (mk j0) (by omega) ⟨j0,rfl,hj,rfl,rfl⟩
theorem qa7{mk:Nat->σ}{c:α->Bool}{u fin:Nat}(t:Ty α)(l:List α)(hl:l.length<=1000000000)
  (h:∀j,j<l.length->step (mk j)=sl (c (gL t l j)) (.exit u) (.next (mk (j+1)))) (hf:step (mk l.length)=.exit fin) (j0:Nat) (hj:j0<=l.length) :
  lp step (mk j0)=if (l.drop j0).any c then (u,mk (j0+(l.drop j0).findIdx c)) else (fin,mk l.length):=by
 have key:=Zb9 (step:=step) (I:=λm s=>∃j,m=l.length-j/\j<=l.length/\j0<=j/\s=mk j/\(l.drop j).any c=(l.drop j0).any c/\j+(l.drop j).findIdx c=j0+(l.drop j0).findIdx c)
  (Q:=λv s=>(v,s)=if (l.drop j0).any c then (u,mk (j0+(l.drop j0).findIdx c)) else (fin,mk l.length)) (λm s ⟨j,hm,hj,hj0,hs,he,hi⟩=>by
   subst hs;by_cases hlt:j<l.length
   ·have h1:=h j hlt;have e:gL t l j=l[j]:=by simp[gL,Qda,Qaa hlt]
    have e2:(l.drop j).any c=(c l[j]||(l.drop (j+1)).any c):=by rw[Qha hlt,List.any_cons]
    have e3:(l.drop j).findIdx c=if c l[j] then 0 else (l.drop (j+1)).findIdx c+1:=by rw[Qha hlt,List.findIdx_cons];cases c l[j]<;>rfl
    rw[e] at h1;cases hc:c l[j] with
    |true =>
     rw[hc] at h1;refine .inl ⟨u,h1,?_⟩;rw[<- he,e2,hc,<- hi,e3,hc];rfl
    |false =>
     rw[hc] at h1;refine .inr ⟨_,l.length-(j+1),by omega,h1,j+1,rfl,by omega,by omega,rfl,?_,?_⟩
     ·rw[<- he,e2,hc];rfl
     ·rw[<- hi,e3,hc];simp only[Qhd,if_false];omega
   ·have:j=l.length:=by omega
    subst this;refine .inl ⟨fin,hf,?_⟩;rw[<- he];simp) (l.length-j0) (mk j0) (by omega) ⟨j0,rfl,hj,Qaf _,rfl,rfl,rfl⟩
 exact key
end
theorem Qa8{α:Type}(t:Ty α){l:List α}{j:Nat}(h:j<l.length):gL t l j∈l:=by
 simp[gL,Qda,Qaa h]
theorem ac0{α:Type}(t:Ty α){l:List α}{j:Nat}(h:j<l.length):gL t l j=l[j]:=by
 simp[gL,Qda,Qaa h]
def euF:Nat->Int->Int->Int
 |0,g,_=>g
 |k+1,g,n=>if n=0 then g else euF k n (Int.tmod g n)
def eu(g n:Int):Int:=euF (n.natAbs+1) g n
theorem pb3{g n:Int}(h:n≠0):(Int.tmod g n).natAbs<n.natAbs:=by
 rw[Int.natAbs_tmod];exact Nat.mod_lt _ (by omega)
theorem Ld9:∀(k m:Nat) {g n:Int},n.natAbs<k->n.natAbs<m->euF k g n=euF m g n
 |0,_,_,_,h,_=>by omega
 |_+1,0,_,_,_,h=>by omega
 |k+1,m+1,g,n,h1,h2=>by
  unfold euF;by_cases h:n=0
  ·rw[if_pos h,if_pos h]
  ·rw[if_neg h,if_neg h]
   have:=pb3 (g:=g) h
   exact Ld9 k m (by omega) (by omega)
theorem wc5(g:Int):eu g 0=g:=by simp[eu,euF]
theorem Ad5{g n:Int}(h:n≠0):eu g n=eu n (Int.tmod g n):=by
 have:=pb3 (g:=g) h
 unfold eu
 conv=>lhs;unfold euF
 rw[if_neg h];exact Ld9 _ _ (by omega) (by omega)
theorem ef6:∀(k:Nat) (g n:Int),n.natAbs<=k->(eu g n).natAbs=Int.gcd g n:=by
 intro k
 induction k with
 |zero =>
  intro g n h
  have:n=0:=by omega
  subst this;rw[wc5];simp
 |succ k ih =>
  intro g n h;by_cases h0:n=0
  ·subst h0;rw[wc5];simp
  ·have:=pb3 (g:=g) h0
   rw[Ad5 h0,ih n (Int.tmod g n) (by omega)]
   unfold Int.gcd;rw[Int.natAbs_tmod,Nat.gcd_comm g.natAbs,Nat.gcd_comm n.natAbs,<- Nat.gcd_rec]
theorem ef7(g n:Int):(eu g n).natAbs=Int.gcd g n:=ef6 _ g n (Qaf _)
theorem oe1:∀(k:Nat) (g n:Int),n.natAbs<=k->0<=g->0<=n->0<=eu g n:=by
 intro k
 induction k with
 |zero =>
  intro g n h hg _
  have:n=0:=by omega
  subst this;rw[wc5];exact hg
 |succ k ih =>
  intro g n h hg hn;by_cases h0:n=0
  ·subst h0;rw[wc5];exact hg
  ·have:=pb3 (g:=g) h0
   rw[Ad5 h0];exact ih n _ (by omega) hn (Int.tmod_nonneg _ hg)
theorem ef8{g n:Int}(hg:0<=g)(hn:0<=n):eu g n=(Int.gcd g n:Int):=by
 have h1:=oe1 _ g n (Qaf _) hg hn;have h2:=ef7 g n;omega
section
variable{σ:Type}{step:σ->Stp σ}{mk:Int->Int->σ}
theorem Oc0(h:∀g n,0<n->step (mk g n)=.next (mk n (Int.tmod g n)))(h0:∀g,step (mk g 0)=.exit 1)(g n:Int)(hg:0<=g)(h1:0<=n)(hn:n<=9223372036854775808):lp step (mk g n)=(1,mk (eu g n) 0):=by
 have:=Zb9 (step:=step) (I:=λm s=>∃a c,s=mk a c/\c.natAbs<=m/\0<=a/\0<=c/\eu a c=eu g n) (Q:=λu s=>(u,s)=(1,mk (eu g n) 0)) (λm s ⟨a,c,hs,hm,ha,hc0,he⟩=>by
  subst hs;by_cases hc:c=0
  ·subst hc;rw[wc5] at he;subst he;exact .inl ⟨1,h0 _,rfl⟩
  ·have ht:=pb3 (g:=a) hc;exact .inr ⟨_,m-1,by omega,h a c (by omega),c,_,rfl,by omega,hc0,Int.tmod_nonneg _ ha,by rw[<- he,Ad5 hc]⟩) n.natAbs (mk g n) (by omega) ⟨g,n,rfl,Qaf _,hg,h1,rfl⟩
 exact this
end
theorem mb{a c A C:Int}(h1:-A<=a)(h2:a<=A)(h3:-C<=c)(h4:c<=C):-(A*C)<=a*c/\a*c<=A*C:=by
 have hA:a.natAbs<=A.natAbs:=by omega
 have hC:c.natAbs<=C.natAbs:=by omega
 have h5:=Nat.mul_le_mul hA hC;rw[<- Int.natAbs_mul,<- Int.natAbs_mul] at h5;have h6:0<=A*C:=Int.mul_nonneg (by omega) (by omega)
 omega
end Go.Ev.L
namespace Go.Proofs
open Go.Shelf
set_option maxRecDepth 100000 in
def Ce.sortLayV_ren:Go.Shelf.Ren:=⟨fun | 6=>87 | 15=>95 | 14=>119 | 28=>132 | 29=>133 | 20=>148 | 21=>149 | 22=>150 | 23=>151 | 24=>152 | 25=>153 | 26=>154 | 27=>155 | 46=>168 | 47=>158 | 48=>159 | 49=>169 | 50=>170 | 57=>176 | n=>n,fun | 22=>25 | 24=>52 | 25=>113 | 3=>3 | 39=>119 | 0=>0 | 53=>147 | 55=>149 | 4=>4 | 46=>141 | 45=>140 | 50=>38 | 5=>5 | 9=>9 | 66=>162 | 70=>166 | 76=>171 | 77=>172 | n=>n,fun | n=>n⟩
set_option maxRecDepth 100000 in
theorem Ce.sortLayV:Go.Proofs.SlLaysF0.n6 Tryz.prog Ce.sortLayV_ren:={
 mixed:=by kernel_rfl
 f6:=⟨Tryz.f87.name,by decide,Tryz.func87.trans (congrArg some (by kernel_rfl))⟩
 f14:=⟨Tryz.f119.name,by decide,Tryz.func119.trans (congrArg some (by kernel_rfl))⟩
 f15:=Tryz.func95.trans (congrArg some (by kernel_rfl))
 f20:=⟨Tryz.f148.name,by decide,Tryz.func148.trans (congrArg some (by kernel_rfl))⟩
 f21:=⟨Tryz.f149.name,by decide,Tryz.func149.trans (congrArg some (by kernel_rfl))⟩
 f22:=⟨Tryz.f150.name,by decide,Tryz.func150.trans (congrArg some (by kernel_rfl))⟩
 f23:=⟨Tryz.f151.name,by decide,Tryz.func151.trans (congrArg some (by kernel_rfl))⟩
 f24:=⟨Tryz.f152.name,by decide,Tryz.func152.trans (congrArg some (by kernel_rfl))⟩
 f25:=⟨Tryz.f153.name,by decide,Tryz.func153.trans (congrArg some (by kernel_rfl))⟩
 f26:=⟨Tryz.f154.name,by decide,Tryz.func154.trans (congrArg some (by kernel_rfl))⟩
 f27:=⟨Tryz.f155.name,by decide,Tryz.func155.trans (congrArg some (by kernel_rfl))⟩
 f28:=Tryz.func132.trans (congrArg some (by kernel_rfl))
 f29:=Tryz.func133.trans (congrArg some (by kernel_rfl))
 f46:=⟨Tryz.f168.name,by decide,Tryz.func168.trans (congrArg some (by kernel_rfl))⟩
 f47:=Tryz.func158.trans (congrArg some (by kernel_rfl))
 f48:=Tryz.func159.trans (congrArg some (by kernel_rfl))
 f49:=⟨Tryz.f169.name,by decide,Tryz.func169.trans (congrArg some (by kernel_rfl))⟩
 f50:=⟨Tryz.f170.name,by decide,Tryz.func170.trans (congrArg some (by kernel_rfl))⟩
 f57:=⟨Tryz.f176.name,by decide,Tryz.func176.trans (congrArg some (by kernel_rfl))⟩
 t0:=Tryz.underlying0
 a0:=Tryz.isAgg0
 z0:=Tryz.sizeOf0
 v0:=Tryz.zeroValue0
 t3:=Tryz.underlying3
 a3:=Tryz.isAgg3
 z3:=Tryz.sizeOf3
 v3:=Tryz.zeroValue3
 t4:=Tryz.underlying4
 a4:=Tryz.isAgg4
 z4:=Tryz.sizeOf4
 v4:=Tryz.zeroValue4
 t5:=Tryz.underlying5
 a5:=Tryz.isAgg5
 z5:=Tryz.sizeOf5
 v5:=Tryz.zeroValue5
 t9:=Tryz.underlying9
 a9:=Tryz.isAgg9
 z9:=Tryz.sizeOf9
 v9:=Tryz.zeroValue9
 t22:=Tryz.underlying25
 a22:=Tryz.isAgg25
 z22:=Tryz.sizeOf25
 v22:=Tryz.zeroValue25
 t25:=Tryz.underlying113
 a25:=Tryz.isAgg113
 z25:=Tryz.sizeOf113
 v25:=Tryz.zeroValue113
 t39:=Tryz.underlying119
 a39:=Tryz.isAgg119
 z39:=Tryz.sizeOf119
 v39:=Tryz.zeroValue119
 t45:=Tryz.underlying140
 a45:=Tryz.isAgg140
 z45:=Tryz.sizeOf140
 v45:=Tryz.zeroValue140
 t46:=Tryz.underlying141
 a46:=Tryz.isAgg141
 z46:=Tryz.sizeOf141
 v46:=Tryz.zeroValue141
 t50:=Tryz.underlying38
 a50:=Tryz.isAgg38
 z50:=Tryz.sizeOf38
 v50:=Tryz.zeroValue38
 t53:=Tryz.underlying147
 a53:=Tryz.isAgg147
 z53:=Tryz.sizeOf147
 v53:=Tryz.zeroValue147
 t55:=Tryz.underlying149
 a55:=Tryz.isAgg149
 z55:=Tryz.sizeOf149
 v55:=Tryz.zeroValue149
 t66:=Tryz.underlying162
 a66:=Tryz.isAgg162
 z66:=Tryz.sizeOf162
 v66:=Tryz.zeroValue162
 t70:=Tryz.underlying166
 a70:=Tryz.isAgg166
 z70:=Tryz.sizeOf166
 v70:=Tryz.zeroValue166
 t76:=Tryz.underlying171
 a76:=Tryz.isAgg171
 z76:=Tryz.sizeOf171
 v76:=Tryz.zeroValue171
 t77:=Tryz.underlying172
 a77:=Tryz.isAgg172
 z77:=Tryz.sizeOf172
 v77:=Tryz.zeroValue172 }
end Go.Proofs
namespace Go.Ev.Ce
open Go Go.Ev Go.Ev.L Go.Proofs Go.Sort
theorem ee6(x y:Int):oa1 x y=some (i (Db0 x y),[]):=by
 unfold oa1 Qa0 Db0;simp only[bne_self_eq_false,pc5,decide_eq_true_eq,Qhd,if_false]
 split<;>(try split)<;>rfl
theorem ef9(x y:Int):aa5 x y=Db0 x y:=by unfold aa5;rw[ee6];rfl
theorem ff0(x y:Int):aa6 x y=true:=by unfold aa6;rw[ee6];rfl
def orI(a c d:Int):Int:=if a=0 then if c=0 then d else c else a
theorem Pe1(a c d:Int):((lp (ca6 ⟨[a,c,d],3⟩) ⟨0⟩).1=1/\gL tI [a,c,d] (lp (ca6 ⟨[a,c,d],3⟩) ⟨0⟩).2.is8.toNat=orI a c d)\/((lp (ca6 ⟨[a,c,d],3⟩) ⟨0⟩).1=2/\orI a c d=0):=by
 have g0:gL tI [a,c,d] 0=a:=rfl;have g1:gL tI [a,c,d] 1=c:=rfl;have g2:gL tI [a,c,d] 2=d:=rfl;refine Zb9 (step:=ca6 ⟨[a,c,d],3⟩) (I:=λm s=>(m=3/\s=⟨0⟩)\/(m=2/\s=⟨1⟩/\a=0)\/(m=1/\s=⟨2⟩/\a=0/\c=0)\/(m=0/\s=⟨3⟩/\a=0/\c=0/\d=0))
  (Q:=λt s=>(t=1/\gL tI [a,c,d] s.is8.toNat=orI a c d)\/(t=2/\orI a c d=0)) (λm s hi=>?_) 3 ⟨0⟩ (by omega) (.inl ⟨rfl,rfl⟩)
 rcases hi with⟨rfl,rfl⟩|⟨rfl,rfl,ha⟩|⟨rfl,rfl,ha,hc⟩|⟨rfl,rfl,ha,hc,hd⟩
 ·by_cases h:a=0
  ·exact .inr ⟨⟨1⟩,2,rfl,by subst h;rfl,.inr (.inl ⟨rfl,rfl,h⟩)⟩
  ·refine .inl ⟨1,?_,.inl ⟨rfl,by unfold orI;rw[if_neg h];rfl⟩⟩
   show sl (a != 0) (Stp.exit 1) (Stp.next (⟨W (0+1)⟩:m9))=_;rw[bt (by simpa using h)]
 ·by_cases h:c=0
  ·exact .inr ⟨⟨2⟩,1,rfl,by subst h;rfl,.inr (.inr (.inl ⟨rfl,rfl,ha,h⟩))⟩
  ·refine .inl ⟨1,?_,.inl ⟨rfl,by unfold orI;rw[if_pos ha,if_neg h];rfl⟩⟩
   show sl (c != 0) (Stp.exit 1) (Stp.next (⟨W (1+1)⟩:m9))=_;rw[bt (by simpa using h)]
 ·by_cases h:d=0
  ·exact .inr ⟨⟨3⟩,0,rfl,by subst h;rfl,.inr (.inr (.inr ⟨rfl,rfl,ha,hc,h⟩))⟩
  ·refine .inl ⟨1,?_,.inl ⟨rfl,by unfold orI;rw[if_pos ha,if_pos hc];rfl⟩⟩
   show sl (d != 0) (Stp.exit 1) (Stp.next (⟨W (2+1)⟩:m9))=_;rw[bt (by simpa using h)]
 ·exact .inl ⟨2,rfl,.inr ⟨rfl,by unfold orI;rw[if_pos ha,if_pos hc];exact hd⟩⟩
theorem Ye1(a c d:Int):Wa1 [a,c,d]=some (i (orI a c d),[]):=by
 have h:=Pe1 a c d;unfold Wa1;simp only[i8,j6];rw[show ((([a,c,d]:List Int).length:Nat):Int)=3 from rfl]
 generalize lp (ca6 ⟨[a,c,d],3⟩) ⟨0⟩=r at *
 rcases h with⟨h1,h2⟩|⟨h1,h2⟩
 ·rw[h1,h2];rfl
 ·rw[h1,h2];rfl
theorem Af2(a c d:Int):mb7 [a,c,d]=orI a c d:=by unfold mb7;rw[Ye1];rfl
theorem Af3(a c d:Int):mb8 [a,c,d]=true:=by unfold mb8;rw[Ye1];rfl
def Eb3(x y:V3):Int:=orI (Db0 x.x y.x) (Db0 x.y y.y) (Db0 x.z y.z)
def LtV(x y:V3):Prop:=x.x<y.x\/x.x=y.x/\(x.y<y.y\/x.y=y.y/\x.z<y.z)
instance(x y:V3):Decidable (LtV x y):=by unfold LtV;exact inferInstance
theorem Pe2(x y:V3):Eb3 x y<0↔LtV x y:=by
 have h1:=Pb3 x.x y.x;have h2:=vc7 x.x y.x;have h3:=Pb3 x.y y.y;have h4:=vc7 x.y y.y;have h5:=Pb3 x.z y.z;unfold Eb3 orI LtV;split
 ·split<;>omega
 ·omega
theorem Sa2(x y:V3):ltOf Eb3 x y=decide (LtV x y):=by
 unfold ltOf;rw[decide_eq_decide];exact Pe2 x y
theorem qf5:SWO (ltOf Eb3) where
 irrefl x:=by rw[Sa2];simp[LtV]
 trans x y z h1 h2:=by rw[Sa2,decide_eq_true_eq] at *;unfold LtV at *;omega
 ntrans x y z h1 h2:=by rw[Sa2,decide_eq_false_iff_not] at *;unfold LtV at *;omega
theorem Af4(x y:V3)(h1:ltOf Eb3 x y=false)(h2:ltOf Eb3 y x=false):x=y:=by
 rw[Sa2,decide_eq_false_iff_not] at *
 unfold LtV at *
 obtain⟨a,b,c⟩:=x;obtain⟨a',b',c'⟩:=y
 simp only at *
 have:a=a'/\b=b'/\c=c':=by omega
 obtain⟨rfl,rfl,rfl⟩:=this;rfl
theorem Oc1(x y:V3):Da7 x y=some (i (Eb3 x y),[]):=by
 unfold Da7 Eb3;simp only[ef9,ff0,Af2,Af3,g7]
theorem ff1(x y:V3):Wa2 x y=Eb3 x y:=by unfold Wa2;rw[Oc1];rfl
theorem ff2(x y:V3):Wa3 x y=true:=by unfold Wa3;rw[Oc1];rfl
theorem ff3(x y:V3):(sb4 [.agg (tV.row x),.agg (tV.row y)] []).run=some (i (Eb3 x y),[]):=by
 have:(sb4 [.agg (tV.row x),.agg (tV.row y)] []).run=sel (Wa3 x y) (some (i (Wa2 x y),[])) none:=by kernel_rfl
 rw[this,ff2,ff1]
def Ae5(p:V3):List Value:=[.int .i64 p.x,.int .i64 p.y,.int .i64 p.z]
instance:Inhabited V3:=⟨⟨0,0,0⟩⟩
def Sb4(l:List V3):List V3:=l.mergeSort λx y=>!ltOf Eb3 y x
theorem td6(l:List V3):(Sb4 l).length=l.length:=Qhc l
def Aa3:Sum:=de3 tV 88 52 Sb4
theorem oe2:Ce.sortLayV_ren.f 6=87:=by kernel_rfl
theorem gd9:Ce.sortLayV_ren.t 24=52:=by kernel_rfl
set_option maxRecDepth 100000 in
theorem Wa4:d9 prog G 87 Aa3:=by
 refine de4 (enc:=Ae5) (cf:=Eb3) ⟨_,Tryz.func87,by kernel_rfl,of_decide_eq_true (by kernel_rfl)⟩ (by decide) (λ_=>rfl) (λr h=>pb4 (n:=3) h) (λx v hv=>?_) td6
  (λblk off size w=>de2 Qc8 ff3 (λ_=>rfl) (λ_=>rfl) _ _ _ _ _) (λblk cap d w hcl hH hb hs=>?_)
 ·simp[Ae5] at hv
  rcases hv with rfl|rfl|rfl<;>rfl
 ·have eg:∀args w,(callFunc 88 args).run Tryz.prog w=.ok (.enter 88 args) w:=enters_of Tryz.func88 (by kernel_rfl) rfl
  have:=AnyQ.slices_SortFunc Ce.sortLayV 3 (by rw[gd9];exact Tryz.isAgg52) (by rw[gd9];exact Tryz.sizeOf52) Ae5 (λ_=>rfl) (λx v hv=>by simp[Ae5] at hv;rcases hv with rfl | rfl | rfl<;>rfl) Eb3 qf5 88 #[] blk 0 cap d w eg (hcl 0 d.size) hH hb hs
  rw[oe2] at this;refine this.mono λe w' ⟨h1,d',n,os,h2,h3,h4⟩=>⟨h1,n,os,?_⟩
  have h5:=sorted_unique_holds qf5 Af4 d d' h2 h3;rw[h4];show _=sortWorldK Ae5 3 w blk 0 n (d.toList.mergeSort λx y=>!ltOf Eb3 y x).toArray os
  rw[<- h5]
end Go.Ev.Ce
namespace Go.Ev.Ce
open Go Go.Ev Go.Ev.L Go.Proofs
set_option maxRecDepth 100000
structure Qa9 where
 (alt ns0:Nat)
 eh0:List (List a7)
def Ra0{α:Type}(kk:Qa9->α)(x:V3×List V3):α:=let y0:=(List.range (List.length x.2+1));(sl (Nat.beq 0 0&&Nat.ble ((0+(len (m8 (λk=>(tV).row (gL tV (x.1::x.2) k)) y0)))*24) room) (kk ⟨1,(0+(len (m8 (λk=>(tV).row (gL tV (x.1::x.2) k)) y0))),(app [] (m8 (λk=>(tV).row (gL tV (x.1::x.2) k)) y0))⟩) (kk ⟨0,0,[]⟩))
def ia7(x:V3×List V3):Qa9:=Ra0 (λr=>r) x
def kb9(r:Qa9):DT (a7×List b7):=(xa6 r.alt 1 (.sl 0 0 r.ns0 0,[bq 52 3 r.eh0]) .fail)
def Ra1:Sum:=L6 (Jd0 tV) (λx=>kb9 (ia7 x))
theorem lb0:d9 prog G 47 Ra1:=fc8 (bd b47 gb5) λx=>ha4 (mEq @Ra0 (λr=>(kb9 r).run) x)
structure Da9 where
 ns0:Nat
 eh0:List (List a7)
structure E8 where
 (ns0 os4 ns4:Nat)
structure o3 where
 (is3 is5:Int)
 eh0:List (List a7)
def Sa3(p:E8)(s:o3):St:=⟨.sl 0 0 p.ns0 0::.unk::.unk::i s.is3::.sl 0 p.os4 p.ns4 0::i s.is5::ra 55 [],[bq 52 3 s.eh0]⟩
def X6{α:Type}(k:o3->α)(e:Nat->α)(z:α)(p:E8)(s:o3):α:=let y2:=(p.os4+s.is5.toNat);let y1:=(rdR tV s.eh0 (p.os4+(W (s.is5-1)).toNat));let y0:=(rdR tV s.eh0 y2);(sl (decide (s.is5<(↑p.ns4:Int))) (sl (inB s.is5 p.ns4) (sl (ldR tV s.eh0 y2) (sl (inB (W (s.is5-1)) p.ns4) (sl (ldR tV s.eh0 (p.os4+(W (s.is5-1)).toNat)) (sl (!((y0.x==y1.x)&&((y0.y==y1.y)&&((y0.z==y1.z)&&true)))) (sl (inB s.is5 p.ns4) (sl (ldR tV s.eh0 y2) (sl (inB s.is3 p.ns0) (sl ((Nat.blt (0+s.is3.toNat) (len s.eh0))&&(Nat.ble (0+3) (len (j9 s.eh0 (0+s.is3.toNat))))) (k ⟨W (s.is3+1),W (s.is5+1),setAt s.eh0 (0+s.is3.toNat) (qa9 (j9 s.eh0 (0+s.is3.toNat)) 0 [i y0.x,i y0.y,i y0.z])⟩) z) z) z) z) (k ⟨s.is3,W (s.is5+1),s.eh0⟩)) z) z) z) z) (e 1))
def p8(p:E8)(s:o3):Stp o3:=X6 .next .exit .fail p s
def xa0:Lo E8 o3:=⟨En tbN,1,ef4,[1,1,0,1,4,4,1,0,4,1,2,1,0,1,4,4],[0,3,4,5],.p,[⟨.s (.o (.sl 0 0 (some 0) none))::sUq::sUq::sIq::.s (.o (.sl 0 0 none none))::sIq::ru2 55 [],[⟨52,3,true,none⟩],λa H=>(⟨slN (slT a 0),slO (slT a 4),slN (slT a 4)⟩,⟨aIq a 3,aIq a 5,elT H 0⟩)⟩],p8,[(some 2,λp s=>upq (Sa3 p s) [(29,i s.is5),(30,.sl 0 p.os4 p.ns4 0),(31,i (↑p.ns4:Int)),(32,b (decide (s.is5<(↑p.ns4:Int))))])],Sa3⟩
theorem Kb4:xa0.Ok:=Lo.okq [] .nil λp s=>(.ofq @X6)
structure r6 where
 is3:Int
def Sa4(p:Da9)(s:r6):St:=⟨.sl 0 0 p.ns0 0::.unk::.unk::i s.is3::ra 57 [],[bq 52 3 p.eh0]⟩
def X7{α:Type}(k:r6->α)(e:Nat->α)(z:α)(p:Da9)(s:r6):α:=let y1:=(rdR tV p.eh0 (0+s.is3.toNat));let y0:=(rdR tV p.eh0 (0+(W (s.is3-1)).toNat));let t1:=(lp (p8 (⟨p.ns0,0+s.is3.toNat,p.ns0-s.is3.toNat⟩:E8)) (⟨s.is3,1,p.eh0⟩:o3));(sl (decide (s.is3<(↑p.ns0:Int))) (sl (inB s.is3 p.ns0) (sl (ldR tV p.eh0 (0+s.is3.toNat)) (sl (inB (W (s.is3-1)) p.ns0) (sl (ldR tV p.eh0 (0+(W (s.is3-1)).toNat)) (sl ((y1.x==y0.x)&&((y1.y==y0.y)&&((y1.z==y0.z)&&true))) (sl (inB s.is3 (p.ns0+1)) (sl (Nat.beq t1.1 1) (sl (inB t1.2.is3 (p.ns0+1)) (sl (inB t1.2.is3 (p.ns0+1)) (e 1) z) z) z) z) (k ⟨W (s.is3+1)⟩)) z) z) z) z) (e 2))
def O9(p:Da9)(s:r6):Stp r6:=X7 .next .exit .fail p s
def xa1:Lo Da9 r6:=⟨En tbN,1,ef4,[1,1,0,1,4,4],[0,3],.s .p (.s (.b (.s .p (.c (.s .p (.s (.s .p (.b (.u xa0.ls))) .p)) .p))) .p),[⟨.s (.o (.sl 0 0 (some 0) none))::sUq::sUq::sIq::ru2 57 [],[⟨52,3,true,none⟩],λa H=>(⟨slN (slT a 0),elT H 0⟩,⟨aIq a 3⟩)⟩],O9,[(none,λp s=>let t1:=(lp (p8 (⟨p.ns0,0+s.is3.toNat,p.ns0-s.is3.toNat⟩:E8)) (⟨s.is3,1,p.eh0⟩:o3));⟨[.sl 0 0 (t1.2.is3.toNat-0) 0],[bq 52 3 (app (E1 t1.2.eh0 (0+t1.2.is3.toNat)) (app (List.replicate (p.ns0-t1.2.is3.toNat) [i 0,i 0,i 0]) (j5 t1.2.eh0 ((0+t1.2.is3.toNat)+(p.ns0-t1.2.is3.toNat)))))]⟩),(some 0,λp s=>upq (Sa4 p s) [(10,i s.is3),(11,.sl 0 0 p.ns0 0),(12,i (↑p.ns0:Int)),(13,b (decide (s.is3<(↑p.ns0:Int))))])],Sa4⟩
theorem Kb5:xa1.Ok:=Lo.okq [xa0.pr] (.cons Kb4 .nil) λp s=>(.ofq @X7)
def Ea1{α:Type}(kk:Qa9->α)(x:Da9):α:=let t1:=(lp (O9 (⟨x.ns0,x.eh0⟩:Da9)) (⟨1⟩:r6));let t2:=(lp (p8 (⟨x.ns0,0+t1.2.is3.toNat,x.ns0-t1.2.is3.toNat⟩:E8)) (⟨t1.2.is3,1,x.eh0⟩:o3));(sl (decide ((↑x.ns0:Int)<2)) (kk ⟨1,x.ns0,x.eh0⟩) (sl (Nat.beq t1.1 1) (kk ⟨1,t2.2.is3.toNat-0,app (E1 t2.2.eh0 (0+t2.2.is3.toNat)) (app (List.replicate (x.ns0-t2.2.is3.toNat) [i 0,i 0,i 0]) (j5 t2.2.eh0 ((0+t2.2.is3.toNat)+(x.ns0-t2.2.is3.toNat))))⟩) (sl (Nat.beq t1.1 2) (kk ⟨1,x.ns0,x.eh0⟩) (kk ⟨0,0,[]⟩))))
def P0(x:Da9):Qa9:=Ea1 (λr=>r) x
def Ya5(x:Da9)(r:Qa9):DT (a7×List b7):=(xa6 r.alt 1 (.sl 0 0 r.ns0 0,[bq 52 3 r.eh0]) .fail)
def Ea2:Sum:=va9 ⟨[.s (.o (.sl 0 0 (some 0) none))],[⟨52,3,true,none⟩],λa H=>(⟨slN (slT a 0),elT H 0⟩,())⟩ (λx=>Ya5 x (P0 x))
theorem Ya6:d9 prog G 89 Ea2:=r5 (enc:=λx=>⟨[.sl 0 0 x.ns0 0],[bq 52 3 x.eh0]⟩) (λa H=>by kernel_rfl) (bd b89 gb5) λx=>ha5 (.s .p (.s .p (.s (.s .p (.b (.u xa1.ls))) .p))) [xa1.pr] (.cons Kb5 .nil) (mEq @Ea1 (λr=>(Ya5 x r).run) x)
def Gc8:List (Nat×Sum):=[(47,Ra1),(87,Aa3),(89,Ea2)]
theorem wc6:l6 prog G Gc8:=⟨lb0,Wa4,Ya6,trivial⟩
def ya1(x:V3×List V3):ROq:=let t1:=(ia7 (hC tV (λk=>(tV).row (gL tV (x.1::x.2) k)),tC tV (List.length x.2) (λk=>(tV).row (gL tV (x.1::x.2) k))));let t2:=(P0 ⟨t1.ns0,app (bL tV (Sb4 (slR tV t1.eh0 0 t1.ns0))) (j5 t1.eh0 t1.ns0)⟩);(sl (okL tV (List.length x.2+1) (λk=>(tV).row (gL tV (x.1::x.2) k))) (sl (Nat.beq t1.alt 1) (sl (Bool.and (Nat.ble t1.ns0 room) (Bool.and (Nat.ble t1.ns0 (len t1.eh0)) (okS tV t1.eh0 0 t1.ns0))) (sl (Nat.beq t2.alt 1) (some (.sl 0 0 t2.ns0 0,[bq 52 3 t2.eh0])) none) none) none) none)
def ib0(x:V3×List V3):List V3:=O8 (one (r1L tV)) (ya1 x)
def ib1(x:V3×List V3):Bool:=okO (one (r1L tV)) (ya1 x)
def Sb5:Sum:=L6 (Jd0 tV) (λx=>.guard (ib1 x) (.ret ((one (r1L tV)).enc (ib0 x),[])))
theorem Gc9:d9 prog G 57 Sb5:=Ra7 (bd b57 wc6) (one (r1L tV)) (o:=ya1)
def cb6:List (Nat×Sum):=[(56,Wa0),(57,Sb5),(91,gb8),(92,wc0),(59,kc6),(60,Ra8),(58,ra9)]
theorem hd4:l6 prog G cb6:=⟨cb5,Gc9,Kb1,nd3,gd6,Db2,ya0,trivial⟩
structure D3 where
 ph:Nat
 M8:Int
 eh4:List (List a7)
 D8:Nat
 eh5:List (List a7)
def Kb6(p:fa9)(s:D3):St:=⟨.unk::.ptr 0 0 0 0::.unk::i p.is3::i p.is4::ra 4 (i p.is9::i p.C8::ra 5 (i p.Ya3::i p.M7::ra 5 (i p.Uc5::i s.M8::ra 35 (i 0::.unk::.ptr 1 0 0 0::nlq::i 0::.unk::.ptr 2 0 0 0::.ptr 3 0 0 0::ra 28 [])))),[bq 0 1 [[eL tV p.a8]],bq 0 1 [[eL tV p.g8]],bq 0 0 [[.ptr 4 0 0 0]],bq 0 0 [[nlq]],bq 93 0 s.eh4]⟩
def Kb7(p:fa9)(s:D3):St:=⟨.unk::.ptr 0 0 0 0::.unk::i p.is3::i p.is4::ra 4 (i p.is9::i p.C8::ra 5 (i p.Ya3::i p.M7::ra 5 (i p.Uc5::i s.M8::ra 35 (i 0::.unk::.ptr 1 0 0 0::nlq::i 0::.unk::.ptr 2 0 0 0::.ptr 3 0 0 0::ra 28 [])))),[bq 0 1 [[eL tV p.a8]],bq 0 1 [[eL tV p.g8]],bq 0 0 [[.ptr 4 0 0 0]],bq 0 0 [[.sl 5 0 s.D8 0]],bq 93 0 s.eh4,bq 57 4 s.eh5]⟩
def Qc9(p:fa9)(s:D3):St:=(sel (Nat.beq s.ph 1) (Kb7 p s) (Kb6 p s))
def ga2{α:Type}(k:D3->α)(e:Nat->α)(z:α)(p:fa9)(s:D3):α:=let y7:=(List.length p.a8);let y6:=(okE tV p.g8);let y5:=(rt tV p.g8);let y3:=(W (s.M8+1));let t1:=(K8 (gL tV p.a8 s.M8.toNat) (gL tV p.a8 p.is4.toNat) (gL tV p.a8 p.is3.toNat));let y0:=(gb0 [(0,.int .i64),(1,.int .i64),(2,.int .i64),(3,.int .i64)] [i t1.1.n.x,i t1.1.n.y,i t1.1.n.z,i t1.1.b] [i t1.1.n.x,i t1.1.n.y,i t1.1.n.z,i t1.1.b,b true] s.eh4);let t2:=(Ia2 t1.1);let y8:=(ga1 y5 t2);let y4:=(Ib4 4 [(0,.int .i64),(1,.int .i64),(2,.int .i64),(3,.int .i64)] [i t2.n.x,i t2.n.y,i t2.n.z,i t2.b] y0);let y2:=(gb0 [(0,.int .i64),(1,.int .i64),(2,.int .i64),(3,.int .i64)] [i t2.n.x,i t2.n.y,i t2.n.z,i t2.b] [i t2.n.x,i t2.n.y,i t2.n.z,i t2.b,b true] s.eh4);let y1:=(gb0 [(0,.int .i64),(1,.int .i64),(2,.int .i64),(3,.int .i64)] [i t2.n.x,i t2.n.y,i t2.n.z,i t2.b] [i t2.n.x,i t2.n.y,i t2.n.z,i t2.b,b true] y0);let t3:=(ga0 y5 t2);let t4:=(ga0 y5 t1.1);(sl (decide (s.M8<p.Uc5)) (sl (inB s.M8 y7) (sl (inB p.is4 y7) (sl (inB p.is3 y7) (sl (ma8 (gL tV p.a8 s.M8.toNat) (gL tV p.a8 p.is4.toNat) (gL tV p.a8 p.is3.toNat)) (sl t1.2 (sl t1.2 (sl (Ib4 4 [(0,.int .i64),(1,.int .i64),(2,.int .i64),(3,.int .i64)] [i t1.1.n.x,i t1.1.n.y,i t1.1.n.z,i t1.1.b] s.eh4) (sl (Ib4 4 [(0,.int .i64),(1,.int .i64),(2,.int .i64),(3,.int .i64)] [i t2.n.x,i t2.n.y,i t2.n.z,i t2.b] s.eh4) (k ⟨0,y3,s.eh4,0,[]⟩) (sl y6 (sl y8 (sl (!t3) (k ⟨1,y3,y2,1,[[i t2.n.x,i t2.n.y,i t2.n.z,i t2.b]]⟩) (k ⟨0,y3,y2,0,[]⟩)) z) z)) (sl y6 (sl (ga1 y5 t1.1) (sl (!t4) (sl y4 (k ⟨1,y3,y0,1,[[i t1.1.n.x,i t1.1.n.y,i t1.1.n.z,i t1.1.b]]⟩) (sl y6 (sl y8 (sl (!t3) (k ⟨1,y3,y1,2,[[i t1.1.n.x,i t1.1.n.y,i t1.1.n.z,i t1.1.b],[i t2.n.x,i t2.n.y,i t2.n.z,i t2.b]]⟩) (k ⟨1,y3,y1,1,[[i t1.1.n.x,i t1.1.n.y,i t1.1.n.z,i t1.1.b]]⟩)) z) z)) (sl y4 (k ⟨0,y3,y0,0,[]⟩) (sl y6 (sl y8 (sl (!t3) (k ⟨1,y3,y1,1,[[i t2.n.x,i t2.n.y,i t2.n.z,i t2.b]]⟩) (k ⟨0,y3,y1,0,[]⟩)) z) z))) z) z)) (k ⟨0,y3,s.eh4,0,[]⟩)) (sl t1.2 z (k ⟨0,y3,s.eh4,0,[]⟩))) z) z) z) z) (e 1))
def ga3{α:Type}(k:D3->α)(e:Nat->α)(z:α)(p:fa9)(s:D3):α:=let y9:=(List.length p.a8);let y8:=(okE tV p.g8);let y6:=(rt tV p.g8);let y4:=(W (s.M8+1));let t1:=(K8 (gL tV p.a8 s.M8.toNat) (gL tV p.a8 p.is4.toNat) (gL tV p.a8 p.is3.toNat));let y2:=(app s.eh5 [[i t1.1.n.x,i t1.1.n.y,i t1.1.n.z,i t1.1.b]]);let y0:=(gb0 [(0,.int .i64),(1,.int .i64),(2,.int .i64),(3,.int .i64)] [i t1.1.n.x,i t1.1.n.y,i t1.1.n.z,i t1.1.b] [i t1.1.n.x,i t1.1.n.y,i t1.1.n.z,i t1.1.b,b true] s.eh4);let t2:=(Ia2 t1.1);let y10:=(ga1 y6 t2);let y7:=(app s.eh5 [[i t2.n.x,i t2.n.y,i t2.n.z,i t2.b]]);let y5:=(Ib4 4 [(0,.int .i64),(1,.int .i64),(2,.int .i64),(3,.int .i64)] [i t2.n.x,i t2.n.y,i t2.n.z,i t2.b] y0);let y3:=(gb0 [(0,.int .i64),(1,.int .i64),(2,.int .i64),(3,.int .i64)] [i t2.n.x,i t2.n.y,i t2.n.z,i t2.b] [i t2.n.x,i t2.n.y,i t2.n.z,i t2.b,b true] s.eh4);let y1:=(gb0 [(0,.int .i64),(1,.int .i64),(2,.int .i64),(3,.int .i64)] [i t2.n.x,i t2.n.y,i t2.n.z,i t2.b] [i t2.n.x,i t2.n.y,i t2.n.z,i t2.b,b true] y0);let t3:=(ga0 y6 t2);let t4:=(ga0 y6 t1.1);let a0:=(Nat.beq s.D8 (len s.eh5)&&Nat.ble ((s.D8+1)*32) room);(sl (decide (s.M8<p.Uc5)) (sl (inB s.M8 y9) (sl (inB p.is4 y9) (sl (inB p.is3 y9) (sl (ma8 (gL tV p.a8 s.M8.toNat) (gL tV p.a8 p.is4.toNat) (gL tV p.a8 p.is3.toNat)) (sl t1.2 (sl t1.2 (sl (Ib4 4 [(0,.int .i64),(1,.int .i64),(2,.int .i64),(3,.int .i64)] [i t1.1.n.x,i t1.1.n.y,i t1.1.n.z,i t1.1.b] s.eh4) (sl (Ib4 4 [(0,.int .i64),(1,.int .i64),(2,.int .i64),(3,.int .i64)] [i t2.n.x,i t2.n.y,i t2.n.z,i t2.b] s.eh4) (k ⟨1,y4,s.eh4,s.D8,s.eh5⟩) (sl y8 (sl y10 (sl (!t3) (sl a0 (k ⟨1,y4,y3,s.D8+1,y7⟩) z) (k ⟨1,y4,y3,s.D8,s.eh5⟩)) z) z)) (sl y8 (sl (ga1 y6 t1.1) (sl (!t4) (sl a0 (sl y5 (k ⟨1,y4,y0,s.D8+1,y2⟩) (sl y8 (sl y10 (sl (!t3) (sl (Nat.beq (s.D8+1) (len y2)&&Nat.ble (((s.D8+1)+1)*32) room) (k ⟨1,y4,y1,(s.D8+1)+1,app y2 [[i t2.n.x,i t2.n.y,i t2.n.z,i t2.b]]⟩) z) (k ⟨1,y4,y1,s.D8+1,y2⟩)) z) z)) z) (sl y5 (k ⟨1,y4,y0,s.D8,s.eh5⟩) (sl y8 (sl y10 (sl (!t3) (sl a0 (k ⟨1,y4,y1,s.D8+1,y7⟩) z) (k ⟨1,y4,y1,s.D8,s.eh5⟩)) z) z))) z) z)) (k ⟨1,y4,s.eh4,s.D8,s.eh5⟩)) (sl t1.2 z (k ⟨1,y4,s.eh4,s.D8,s.eh5⟩))) z) z) z) z) (e 2))
def U5(p:fa9)(s:D3):Stp D3:=(sel (Nat.beq s.ph 1) (ga3 .next .exit .fail p s) (ga2 .next .exit .fail p s))
def sb5:Lo fa9 D3:=⟨En cb6,0,Oe5,[1,1,1,1,1,0,1,4,4,1,4,4,1,1,0,4,1,1,4,4,1,1,0,4,1,1,4,4],[1,3,4,9,10,16,17,23,24,60,62,63,64,66,67],.p,[⟨sUq::sPq 0::sUq::sIq::sIq::ru2 4 (sIq::sIq::ru2 5 (sIq::sIq::ru2 5 (sIq::sIq::ru2 35 (.s (.o (.lit .i64 0))::sUq::sPq 1::.s (.o .nil)::.s (.o (.lit .i64 0))::sUq::sPq 2::sPq 3::ru2 28 [])))),[⟨0,1,true,some [[.c 3 (nL tV)]]⟩,⟨0,1,true,some [[.c 3 (nL tV)]]⟩,⟨0,0,true,some [[.o (.ptr 4 0 0 0)]]⟩,⟨0,0,true,some [[.o .nil]]⟩,⟨93,0,true,none⟩],λa H=>(⟨aIq a 3,aIq a 4,aIq a 9,aIq a 10,aIq a 16,aIq a 17,aIq a 23,hLq tV H 0 0 0,hLq tV H 1 0 0⟩,⟨0,aIq a 24,elT H 4,0,[]⟩)⟩,⟨sUq::sPq 0::sUq::sIq::sIq::ru2 4 (sIq::sIq::ru2 5 (sIq::sIq::ru2 5 (sIq::sIq::ru2 35 (.s (.o (.lit .i64 0))::sUq::sPq 1::.s (.o .nil)::.s (.o (.lit .i64 0))::sUq::sPq 2::sPq 3::ru2 28 [])))),[⟨0,1,true,some [[.c 3 (nL tV)]]⟩,⟨0,1,true,some [[.c 3 (nL tV)]]⟩,⟨0,0,true,some [[.o (.ptr 4 0 0 0)]]⟩,⟨0,0,true,some [[.o (.sl 5 0 (some 0) none)]]⟩,⟨93,0,true,none⟩,⟨57,4,true,none⟩],λa H=>(⟨aIq a 3,aIq a 4,aIq a 9,aIq a 10,aIq a 16,aIq a 17,aIq a 23,hLq tV H 0 0 0,hLq tV H 1 0 0⟩,⟨1,aIq a 24,elT H 4,slN (slT (rwT (elT H 3) 0) 0),elT H 5⟩)⟩],U5,[(some 4,λp s=>upq (Kb6 p s) [(25,b (decide (s.M8<p.Uc5)))]),(some 4,λp s=>upq (Kb7 p s) [(25,b (decide (s.M8<p.Uc5)))])],Qc9⟩
theorem Rc0:sb5.OkM:=Lo.okMq [] .nil λp s=>(.sel (Nat.beq s.ph 1) (.ofq @ga3) (.ofq @ga2))
structure C6 where
 ph:Nat
 M7:Int
 (a8 g8:List V3)
 eh4:List (List a7)
 D8:Nat
 eh5:List (List a7)
def Kb8(p:pa5)(s:C6):St:=⟨.unk::.ptr 0 0 0 0::.unk::i p.is3::ra 5 (i p.is9::i p.C8::ra 5 (i p.Ya3::i s.M7::ra 42 (i 0::.unk::.ptr 1 0 0 0::nlq::i 0::.unk::.ptr 2 0 0 0::.ptr 3 0 0 0::ra 28 []))),[bq 0 1 [[eL tV s.a8]],bq 0 1 [[eL tV s.g8]],bq 0 0 [[.ptr 4 0 0 0]],bq 0 0 [[nlq]],bq 93 0 s.eh4]⟩
def Kb9(p:pa5)(s:C6):St:=⟨.unk::.ptr 0 0 0 0::.unk::i p.is3::ra 5 (i p.is9::i p.C8::ra 5 (i p.Ya3::i s.M7::ra 42 (i 0::.unk::.ptr 1 0 0 0::nlq::i 0::.unk::.ptr 2 0 0 0::.ptr 3 0 0 0::ra 28 []))),[bq 0 1 [[eL tV s.a8]],bq 0 1 [[eL tV s.g8]],bq 0 0 [[.ptr 4 0 0 0]],bq 0 0 [[.sl 5 0 s.D8 0]],bq 93 0 s.eh4,bq 57 4 s.eh5]⟩
def Rc1(p:pa5)(s:C6):St:=(sel (Nat.beq s.ph 1) (Kb9 p s) (Kb8 p s))
def ga4{α:Type}(k:C6->α)(e:Nat->α)(z:α)(p:pa5)(s:C6):α:=let y1:=(rt tV s.g8);let y0:=(rt tV s.a8);let t1:=(lp (U5 (⟨p.is3,s.M7,p.is9,p.C8,p.Ya3,s.M7,(↑(s.M7.toNat-0):Int),y0,y1⟩:fa9)) (⟨0,0,s.eh4,0,[]⟩:D3));(sl (decide (s.M7<p.Ya3)) (sl (inB s.M7 ((List.length s.a8)+1)) (sl ((cnE tV s.a8)&&((cnE tV s.g8)&&true)) (sl (Nat.beq t1.1 1) (k ⟨0,W (s.M7+1),y0,y1,t1.2.eh4,0,[]⟩) (sl (Nat.beq t1.1 2) (k ⟨1,W (s.M7+1),y0,y1,t1.2.eh4,t1.2.D8,t1.2.eh5⟩) z)) z) z) (e 1))
def ga5{α:Type}(k:C6->α)(e:Nat->α)(z:α)(p:pa5)(s:C6):α:=let y1:=(rt tV s.g8);let y0:=(rt tV s.a8);let t1:=(lp (U5 (⟨p.is3,s.M7,p.is9,p.C8,p.Ya3,s.M7,(↑(s.M7.toNat-0):Int),y0,y1⟩:fa9)) (⟨1,0,s.eh4,s.D8,s.eh5⟩:D3));(sl (decide (s.M7<p.Ya3)) (sl (inB s.M7 ((List.length s.a8)+1)) (sl ((cnE tV s.a8)&&((cnE tV s.g8)&&true)) (sl (Nat.beq t1.1 1) (k ⟨0,W (s.M7+1),y0,y1,t1.2.eh4,0,[]⟩) (sl (Nat.beq t1.1 2) (k ⟨1,W (s.M7+1),y0,y1,t1.2.eh4,t1.2.D8,t1.2.eh5⟩) z)) z) z) (e 2))
def ca7(p:pa5)(s:C6):Stp C6:=(sel (Nat.beq s.ph 1) (ga5 .next .exit .fail p s) (ga4 .next .exit .fail p s))
def sb6:Lo pa5 C6:=⟨En cb6,0,Oe5,[1,1,1,1,1,0,1,4,4,1,4,4,1,1,0,4,1,1,4,4],[1,3,9,10,16,17,60,62,63,64,66,67],.s .p (.s .p (.s (.b (.s .p (.s .p (.b (.u sb5.lsM))))) .p)),[⟨sUq::sPq 0::sUq::sIq::ru2 5 (sIq::sIq::ru2 5 (sIq::sIq::ru2 42 (.s (.o (.lit .i64 0))::sUq::sPq 1::.s (.o .nil)::.s (.o (.lit .i64 0))::sUq::sPq 2::sPq 3::ru2 28 []))),[⟨0,1,true,some [[.c 3 (nL tV)]]⟩,⟨0,1,true,some [[.c 3 (nL tV)]]⟩,⟨0,0,true,some [[.o (.ptr 4 0 0 0)]]⟩,⟨0,0,true,some [[.o .nil]]⟩,⟨93,0,true,none⟩],λa H=>(⟨aIq a 3,aIq a 9,aIq a 10,aIq a 16⟩,⟨0,aIq a 17,hLq tV H 0 0 0,hLq tV H 1 0 0,elT H 4,0,[]⟩)⟩,⟨sUq::sPq 0::sUq::sIq::ru2 5 (sIq::sIq::ru2 5 (sIq::sIq::ru2 42 (.s (.o (.lit .i64 0))::sUq::sPq 1::.s (.o .nil)::.s (.o (.lit .i64 0))::sUq::sPq 2::sPq 3::ru2 28 []))),[⟨0,1,true,some [[.c 3 (nL tV)]]⟩,⟨0,1,true,some [[.c 3 (nL tV)]]⟩,⟨0,0,true,some [[.o (.ptr 4 0 0 0)]]⟩,⟨0,0,true,some [[.o (.sl 5 0 (some 0) none)]]⟩,⟨93,0,true,none⟩,⟨57,4,true,none⟩],λa H=>(⟨aIq a 3,aIq a 9,aIq a 10,aIq a 16⟩,⟨1,aIq a 17,hLq tV H 0 0 0,hLq tV H 1 0 0,elT H 4,slN (slT (rwT (elT H 3) 0) 0),elT H 5⟩)⟩],ca7,[(some 2,λp s=>upq (Kb8 p s) [(18,b (decide (s.M7<p.Ya3)))]),(some 2,λp s=>upq (Kb9 p s) [(18,b (decide (s.M7<p.Ya3)))])],Rc1⟩
theorem Rc2:sb6.OkM:=Lo.okMq [sb5.prM] (.cons Rc0 .nil) λp s=>(.sel (Nat.beq s.ph 1) (.ofq @ga5) (.ofq @ga4))
structure D4 where
 ph:Nat
 C8:Int
 (a8 g8:List V3)
 eh4:List (List a7)
 D8:Nat
 eh5:List (List a7)
def Lb0(p:L3)(s:D4):St:=⟨.unk::.ptr 0 0 0 0::ra 7 (i p.is9::i s.C8::ra 49 (i 0::.unk::.ptr 1 0 0 0::nlq::i 0::.unk::.ptr 2 0 0 0::.ptr 3 0 0 0::ra 28 [])),[bq 0 1 [[eL tV s.a8]],bq 0 1 [[eL tV s.g8]],bq 0 0 [[.ptr 4 0 0 0]],bq 0 0 [[nlq]],bq 93 0 s.eh4]⟩
def Lb1(p:L3)(s:D4):St:=⟨.unk::.ptr 0 0 0 0::ra 7 (i p.is9::i s.C8::ra 49 (i 0::.unk::.ptr 1 0 0 0::nlq::i 0::.unk::.ptr 2 0 0 0::.ptr 3 0 0 0::ra 28 [])),[bq 0 1 [[eL tV s.a8]],bq 0 1 [[eL tV s.g8]],bq 0 0 [[.ptr 4 0 0 0]],bq 0 0 [[.sl 5 0 s.D8 0]],bq 93 0 s.eh4,bq 57 4 s.eh5]⟩
def Rc3(p:L3)(s:D4):St:=(sel (Nat.beq s.ph 1) (Lb1 p s) (Lb0 p s))
def ga6{α:Type}(k:D4->α)(e:Nat->α)(z:α)(p:L3)(s:D4):α:=let t1:=(lp (ca7 (⟨s.C8,p.is9,s.C8,(↑(s.C8.toNat-0):Int)⟩:pa5)) (⟨0,0,rt tV s.a8,rt tV s.g8,s.eh4,0,[]⟩:C6));(sl (decide (s.C8<p.is9)) (sl (inB s.C8 ((List.length s.a8)+1)) (sl ((cnE tV s.a8)&&((cnE tV s.g8)&&true)) (sl (Nat.beq t1.1 1) (k ⟨0,W (s.C8+1),t1.2.a8,t1.2.g8,t1.2.eh4,0,[]⟩) (sl (Nat.beq t1.1 2) (k ⟨1,W (s.C8+1),t1.2.a8,t1.2.g8,t1.2.eh4,t1.2.D8,t1.2.eh5⟩) z)) z) z) (e 1))
def ga7{α:Type}(k:D4->α)(e:Nat->α)(z:α)(p:L3)(s:D4):α:=let t1:=(lp (ca7 (⟨s.C8,p.is9,s.C8,(↑(s.C8.toNat-0):Int)⟩:pa5)) (⟨1,0,rt tV s.a8,rt tV s.g8,s.eh4,s.D8,s.eh5⟩:C6));(sl (decide (s.C8<p.is9)) (sl (inB s.C8 ((List.length s.a8)+1)) (sl ((cnE tV s.a8)&&((cnE tV s.g8)&&true)) (sl (Nat.beq t1.1 1) (k ⟨0,W (s.C8+1),t1.2.a8,t1.2.g8,t1.2.eh4,0,[]⟩) (sl (Nat.beq t1.1 2) (k ⟨1,W (s.C8+1),t1.2.a8,t1.2.g8,t1.2.eh4,t1.2.D8,t1.2.eh5⟩) z)) z) z) (e 2))
def Qa1(p:L3)(s:D4):Stp D4:=(sel (Nat.beq s.ph 1) (ga7 .next .exit .fail p s) (ga6 .next .exit .fail p s))
def sb7:Lo L3 D4:=⟨En cb6,0,Oe5,[1,1,1,1,1,0,1,4,4,1,4,4],[1,9,10,60,62,63,64,66,67],.s .p (.s .p (.s (.b (.s .p (.s .p (.b (.u sb6.lsM))))) .p)),[⟨sUq::sPq 0::ru2 7 (sIq::sIq::ru2 49 (.s (.o (.lit .i64 0))::sUq::sPq 1::.s (.o .nil)::.s (.o (.lit .i64 0))::sUq::sPq 2::sPq 3::ru2 28 [])),[⟨0,1,true,some [[.c 3 (nL tV)]]⟩,⟨0,1,true,some [[.c 3 (nL tV)]]⟩,⟨0,0,true,some [[.o (.ptr 4 0 0 0)]]⟩,⟨0,0,true,some [[.o .nil]]⟩,⟨93,0,true,none⟩],λa H=>(⟨aIq a 9⟩,⟨0,aIq a 10,hLq tV H 0 0 0,hLq tV H 1 0 0,elT H 4,0,[]⟩)⟩,⟨sUq::sPq 0::ru2 7 (sIq::sIq::ru2 49 (.s (.o (.lit .i64 0))::sUq::sPq 1::.s (.o .nil)::.s (.o (.lit .i64 0))::sUq::sPq 2::sPq 3::ru2 28 [])),[⟨0,1,true,some [[.c 3 (nL tV)]]⟩,⟨0,1,true,some [[.c 3 (nL tV)]]⟩,⟨0,0,true,some [[.o (.ptr 4 0 0 0)]]⟩,⟨0,0,true,some [[.o (.sl 5 0 (some 0) none)]]⟩,⟨93,0,true,none⟩,⟨57,4,true,none⟩],λa H=>(⟨aIq a 9⟩,⟨1,aIq a 10,hLq tV H 0 0 0,hLq tV H 1 0 0,elT H 4,slN (slT (rwT (elT H 3) 0) 0),elT H 5⟩)⟩],Qa1,[(some 0,λp s=>upq (Lb0 p s) [(11,b (decide (s.C8<p.is9)))]),(some 0,λp s=>upq (Lb1 p s) [(11,b (decide (s.C8<p.is9)))])],Rc3⟩
theorem Rc4:sb7.OkM:=Lo.okMq [sb6.prM] (.cons Rc2 .nil) λp s=>(.sel (Nat.beq s.ph 1) (.ofq @ga7) (.ofq @ga6))
def xa2(x:V3×List V3):ROq:=let t1:=(wa8 (rt tV (x.1::x.2)));let t2:=(ib0 (hC tV (λk=>(tV).row (gL tV (x.1::x.2) k)),tC tV (List.length x.2) (λk=>(tV).row (gL tV (x.1::x.2) k))));let t3:=(lp (Qa1 (⟨(↑(List.length t2):Int)⟩:L3)) (⟨0,0,rt tV t2,rt tV t2,[],0,[]⟩:D4));(sl (okE tV (x.1::x.2)) (sl (wa9 (rt tV (x.1::x.2))) (sl (t1 != 0) (some (.tup [nlq,i t1],[])) (sl (okL tV (List.length x.2+1) (λk=>(tV).row (gL tV (x.1::x.2) k))) (sl (ib1 (hC tV (λk=>(tV).row (gL tV (x.1::x.2) k)),tC tV (List.length x.2) (λk=>(tV).row (gL tV (x.1::x.2) k)))) (sl ((cnE tV t2)&&((cnE tV t2)&&true)) (sl (Nat.beq t3.1 1) none (sl (Nat.beq t3.1 2) (sl (Bool.and (Nat.ble t3.2.D8 room) (Bool.and (Nat.ble t3.2.D8 (len t3.2.eh5)) (okS tP t3.2.eh5 0 t3.2.D8))) (some (.tup [.sl 0 0 t3.2.D8 0,i 0],[bq 57 4 (app (bL tP (kc4 (slR tP t3.2.eh5 0 t3.2.D8))) (j5 t3.2.eh5 t3.2.D8))])) none) none)) none) none) none)) none) none)
def mb9(x:V3×List V3):PLq×Int:=O8 (two (r1L tP) r1I) (xa2 x)
def nb0(x:V3×List V3):Bool:=okO (two (r1L tP) r1I) (xa2 x)
def wc7:Sum:=L6 (Jd0 tV) (λx=>.guard (nb0 x) (.ret ((two (r1L tP) r1I).enc (mb9 x),[])))
theorem kc7:d9 prog G 24 wc7:=Ec5 (bd b24 hd4) (two (r1L tP) r1I) (o:=xa2) λx=>fd1 (.s .p (.s .p (.s .p (.s .p (.s .p (.s (.s .p (.b (.i (.s .p (.b (.u sb7.lsM)))))) .p)))))) [sb7.prM] (.cons Rc4 .nil)
structure ib2 where
 (fb3 fb4 fb5 ie2 c9 e7 e8:Int)
def Hc0:List (Nat×Sum):=[(100,Ab3)]
theorem wc8:l6 prog G Hc0:=⟨Pb2,trivial⟩
structure ib3 where
 bs0:Bool
def ib4{α:Type}(kk:ib3->α)(x:ib2):α:=let t1:=(U4 (⟨x.c9,x.e7,x.e8⟩:V3) (⟨x.fb3,x.fb4,x.fb5⟩:V3));(kk ⟨t1 != 0⟩)
def ib5(x:ib2):ib3:=ib4 (λr=>r) x
def Lb2(x:ib2)(r:ib3):DT (a7×List b7):=.ret (b r.bs0,[bq 0 3 [[i x.c9,i x.e7,i x.e8]]])
def Sb6:Sum:=va9 ⟨[.agg (kLq 4),sPq 0],[⟨0,3,true,some [kLq 3]⟩],λa H=>(⟨cIq a 0 0,cIq a 0 1,cIq a 0 2,cIq a 0 3,hIq H 0 0 0,hIq H 0 0 1,hIq H 0 0 2⟩,())⟩ (λx=>Lb2 x (ib5 x))
theorem Hc1:d9 prog G 115 Sb6:=r5 (enc:=λx=>⟨[.agg [i x.fb3,i x.fb4,i x.fb5,i x.ie2],.ptr 0 0 0 0],[bq 0 3 [[i x.c9,i x.e7,i x.e8]]]⟩) (λa H=>by kernel_rfl) (bd zf1 wc8) λx=>ha4 (mEq @ib4 (λr=>(Lb2 x r).run) x)
structure la2 where
 V1:PLq
 (c9 e7 e8:Int)
def Ea3:List (Nat×Sum):=[(115,Sb6)]
theorem nb1:l6 prog G Ea3:=⟨Hc1,trivial⟩
structure I5 where
 V1:PLq
 (is7 c9 e7 e8:Int)
def ya2(p:I5)(s:m9):St:=⟨eL tP p.V1::.fn 115 [.ptr 0 0 0 0]::ra 5 (i p.is7::i s.is8::ra 10 []),[bq 0 3 [[i p.c9,i p.e7,i p.e8]]]⟩
def N5{α:Type}(k:m9->α)(e:Nat->α)(z:α)(p:I5)(s:m9):α:=let y0:=(gL tP p.V1 s.is8.toNat);let t1:=(ib5 ⟨y0.n.x,y0.n.y,y0.n.z,y0.b,p.c9,p.e7,p.e8⟩);(sl (decide (s.is8<p.is7)) (sl (inB s.is8 (List.length p.V1)) (sl t1.bs0 (e 1) (k ⟨W (s.is8+1)⟩)) z) (e 2))
def F5(p:I5)(s:m9):Stp m9:=N5 .next .exit .fail p s
def ea1:Lo I5 m9:=⟨En Ea3,1,ef5,[1,0,1,4,4],[0,1,7,8],.p,[⟨sLq tP::.fn 115 [.o (.ptr 0 0 0 0)]::ru2 5 (sIq::sIq::ru2 10 []),[⟨0,3,true,some [kLq 3]⟩],λa H=>(⟨aLq tP a 0,aIq a 7,hIq H 0 0 0,hIq H 0 0 1,hIq H 0 0 2⟩,⟨aIq a 8⟩)⟩],F5,[(none,λp s=>⟨[i s.is8],[bq 0 3 [[i p.c9,i p.e7,i p.e8]]]⟩),(some 0,λp s=>upq (ya2 p s) [(9,b (decide (s.is8<p.is7)))])],ya2⟩
theorem ib6:ea1.Ok:=Lo.okq [] .nil λp s=>(.ofq @N5)
def la4{α:Type}(kk:ra7->α)(x:la2):α:=let t1:=(lp (F5 (⟨rt tP x.V1,(↑(List.length x.V1):Int),x.c9,x.e7,x.e8⟩:I5)) (⟨0⟩:m9));(sl ((cnE tP x.V1)&&true) (sl (Nat.beq t1.1 1) (kk ⟨1,t1.2.is8⟩) (sl (Nat.beq t1.1 2) (kk ⟨1,-1⟩) (kk ⟨0,0⟩))) (kk ⟨0,0⟩))
def V4(x:la2):ra7:=la4 (λr=>r) x
def Ea4(x:la2)(r:ra7):DT (a7×List b7):=(xa6 r.alt 1 (i r.is0,[bq 0 3 [[i x.c9,i x.e7,i x.e8]]]) .fail)
def Ja4:Sum:=va9 ⟨[sLq tP,.fn 115 [.o (.ptr 0 0 0 0)]],[⟨0,3,true,some [kLq 3]⟩],λa H=>(⟨aLq tP a 0,hIq H 0 0 0,hIq H 0 0 1,hIq H 0 0 2⟩,())⟩ (λx=>Ea4 x (V4 x))
theorem sb8:d9 prog G 98 Ja4:=r5 (enc:=λx=>⟨[eL tP x.V1,.fn 115 [.ptr 0 0 0 0]],[bq 0 3 [[i x.c9,i x.e7,i x.e8]]]⟩) (λa H=>by kernel_rfl) (bd b98 nb1) λx=>ha5 (.s .p (.s (.s .p (.b (.u ea1.ls))) .p)) [ea1.pr] (.cons ib6 .nil) (mEq @la4 (λr=>(Ea4 x r).run) x)
def db8:List (Nat×Sum):=[(98,Ja4)]
theorem ab5:l6 prog G db8:=⟨sb8,trivial⟩
def da0{α:Type}(kk:Db5->α)(x:la2):α:=let t1:=(V4 ⟨rt tP x.V1,x.c9,x.e7,x.e8⟩);(sl ((cnE tP x.V1)&&true) (sl (Nat.beq t1.alt 1) (kk ⟨1,decide (t1.is0>=0)⟩) (kk ⟨0,false⟩)) (kk ⟨0,false⟩))
def O3(x:la2):Db5:=da0 (λr=>r) x
def wa0(x:la2)(r:Db5):DT (a7×List b7):=(xa6 r.alt 1 (b r.bs0,[bq 0 3 [[i x.c9,i x.e7,i x.e8]]]) .fail)
def ya3:Sum:=va9 ⟨[sLq tP,.fn 115 [.o (.ptr 0 0 0 0)]],[⟨0,3,true,some [kLq 3]⟩],λa H=>(⟨aLq tP a 0,hIq H 0 0 0,hIq H 0 0 1,hIq H 0 0 2⟩,())⟩ (λx=>wa0 x (O3 x))
theorem db9:d9 prog G 63 ya3:=r5 (enc:=λx=>⟨[eL tP x.V1,.fn 115 [.ptr 0 0 0 0]],[bq 0 3 [[i x.c9,i x.e7,i x.e8]]]⟩) (λa H=>by kernel_rfl) (bd b63 ab5) λx=>ha4 (mEq @da0 (λr=>(wa0 x r).run) x)
def sb9:List (Nat×Sum):=[(114,Cb8),(63,ya3)]
theorem Rc5:l6 prog G sb9:=⟨Zb1,db9,trivial⟩
structure ya4 where
 (V1 Pc1:PLq)
 (is9 C8:Int)
 tf6:Nat
 tf7:Nat->List a7
 (kf6 c9 e7 e8 A8:Int)
structure U6 where
 ae1:Int
def Lb3(p:ya4)(s:U6):St:=⟨eL tP p.V1::ra 3 (.ptr 0 0 0 0::ra 3 (eL tP p.Pc1::i p.is9::i p.C8::ra 6 (.tree 4 p.tf6 p.tf7::i p.kf6::i s.ae1::ra 18 []))),[bq 0 4 [[i p.c9,i p.e7,i p.e8,i p.A8]]]⟩
def Aa9{α:Type}(k:U6->α)(e:Nat->α)(z:α)(p:ya4)(s:U6):α:=let y0:=(p.tf7 s.ae1.toNat);let t1:=(fa6 (⟨p.c9,p.e7,p.e8⟩:V3) (⟨toI (hdA y0),toI (hdA (tlA y0)),toI (hdA (tlA (tlA y0)))⟩:V3));let t2:=(O3 ⟨rt tP p.V1,t1.x,t1.y,t1.z⟩);(sl (decide (s.ae1<p.kf6)) (sl (inB s.ae1 p.tf6) (sl ((Nat.ble 4 (len y0))&&(Ib3 [CK.int .i64,CK.int .i64,CK.int .i64,CK.int .i64] y0)) (sl (!((t1.x==0)&&((t1.y==0)&&((t1.z==0)&&true)))) (sl ((cnE tP p.V1)&&true) (sl (Nat.beq t2.alt 1) (sl t2.bs0 (e 1) (k ⟨W (s.ae1+1)⟩)) z) z) (k ⟨W (s.ae1+1)⟩)) z) z) (e 2))
def ga8(p:ya4)(s:U6):Stp U6:=Aa9 .next .exit .fail p s
def ib7:Lo ya4 U6:=⟨En sb9,0,ef3,[1,0,1,4,4,1,1,0,4,1,1,4,4],[0,4,8,9,10,17,18,19],.p,[⟨sLq tP::ru2 3 (sPq 0::ru2 3 (sLq tP::sIq::sIq::ru2 6 (sTq 4::sIq::sIq::ru2 18 []))),[⟨0,4,true,some [kLq 4]⟩],λa H=>(⟨aLq tP a 0,aLq tP a 8,aIq a 9,aIq a 10,aNq a 17,aGq a 17,aIq a 18,hIq H 0 0 0,hIq H 0 0 1,hIq H 0 0 2,hIq H 0 0 3⟩,⟨aIq a 19⟩)⟩],ga8,[(none,λp s=>⟨[b true],[]⟩),(some 2,λp s=>upq (Lb3 p s) [(20,b (decide (s.ae1<p.kf6)))])],Lb3⟩
theorem Hc2:ib7.Ok:=Lo.okq [] .nil λp s=>(.ofq @Aa9)
structure U7 where
 (V1 Pc1:PLq)
 C8:Int
def Lb4(p:L3)(s:U7):St:=⟨eL tP s.V1::ra 7 (eL tP s.Pc1::i p.is9::i s.C8::ra 27 []),[]⟩
def Ba0{α:Type}(k:U7->α)(e:Nat->α)(z:α)(p:L3)(s:U7):α:=let y0:=(gL tP s.Pc1 s.C8.toNat);let t1:=(lp (ga8 (⟨rt tP s.V1,rt tP s.Pc1,p.is9,s.C8,s.C8.toNat-0,(λk=>(λk=>(tP).row (gL tP s.V1 k)) (0+k)),(↑(s.C8.toNat-0):Int),y0.n.x,y0.n.y,y0.n.z,y0.b⟩:ya4)) (⟨0⟩:U6));(sl (decide (s.C8<p.is9)) (sl (inB s.C8 (List.length s.Pc1)) (sl (inB s.C8 ((List.length s.V1)+1)) (sl ((cnE tP s.V1)&&((cnE tP s.Pc1)&&true)) (sl (Nat.beq t1.1 1) (e 1) (sl (Nat.beq t1.1 2) (k ⟨rt tP s.V1,rt tP s.Pc1,W (s.C8+1)⟩) z)) z) z) z) (e 2))
def ga9(p:L3)(s:U7):Stp U7:=Ba0 .next .exit .fail p s
def ib8:Lo L3 U7:=⟨En sb9,0,ef3,[1,0,1,4,4],[0,8,9,10],.s .p (.s .p (.s (.b (.s .p (.s .p (.b (.u ib7.ls))))) .p)),[⟨sLq tP::ru2 7 (sLq tP::sIq::sIq::ru2 27 []),[],λa H=>(⟨aIq a 9⟩,⟨aLq tP a 0,aLq tP a 8,aIq a 10⟩)⟩],ga9,[(none,λp s=>⟨[b true],[]⟩),(some 0,λp s=>upq (Lb4 p s) [(11,b (decide (s.C8<p.is9)))])],Lb4⟩
theorem Hc3:ib8.Ok:=Lo.okq [ib7.pr] (.cons Hc2 .nil) λp s=>(.ofq @Ba0)
def Ma2(x:PLq):ROq:=let t1:=(lp (ga9 (⟨(↑(List.length x):Int)⟩:L3)) (⟨rt tP x,rt tP x,0⟩:U7));(sl ((cnE tP x)&&((cnE tP x)&&true)) (sl (Nat.beq t1.1 1) (some (b true,[])) (sl (Nat.beq t1.1 2) (some (b false,[])) none)) none)
def za2(x:PLq):Bool:=O8 (one r1B) (Ma2 x)
def za3(x:PLq):Bool:=okO (one r1B) (Ma2 x)
def kc8:Sum:=L6 (db5 tP) (λx=>.guard (za3 x) (.ret ((one r1B).enc (za2 x),[])))
theorem hd5:d9 prog G 82 kc8:=Ec5 (bd b82 Rc5) (one r1B) (o:=Ma2) λx=>ha5 (.s .p (.s (.s .p (.b (.u ib8.ls))) .p)) [ib8.pr] (.cons Hc3 .nil)
structure ab6 where
 (fb3 fb4 fb5:Int)
 X4:PLq
def Ab9:List (Nat×Sum):=[(65,Va6),(82,kc8)]
theorem qc3:l6 prog G Ab9:=⟨cb3,hd5,trivial⟩
structure K0 where
 vd3:PLq
 is8:Int
 X4:PLq
 (fa4 Bc4 Bc5:Int)
structure k9 where
 ph:Nat
 is9:Int
 ns4:Nat
 eh2:List (List a7)
def eb0(p:K0)(s:k9):St:=⟨.unk::.unk::.ptr 1 0 0 0::.unk::nlq::.unk::.unk::eL tP p.vd3::i p.is8::i s.is9::ra 15 [],[bq 0 1 [[eL tP p.X4]],bq 0 3 [[i p.fa4,i p.Bc4,i p.Bc5]]]⟩
def eb1(p:K0)(s:k9):St:=⟨.unk::.unk::.ptr 1 0 0 0::.unk::.sl 2 0 s.ns4 0::.unk::.unk::eL tP p.vd3::i p.is8::i s.is9::ra 15 [],[bq 0 1 [[eL tP p.X4]],bq 0 3 [[i p.fa4,i p.Bc4,i p.Bc5]],bq 57 4 s.eh2]⟩
def ic7(p:K0)(s:k9):St:=(sel (Nat.beq s.ph 1) (eb1 p s) (eb0 p s))
def P1{α:Type}(k:k9->α)(e:Nat->α)(z:α)(p:K0)(s:k9):α:=let y1:=(⟨p.fa4,p.Bc4,p.Bc5⟩:V3);let y0:=(gL tP p.vd3 s.is9.toNat);let t1:=(na9 y0 y1);(sl (decide (s.is9<p.is8)) (sl (inB s.is9 (List.length p.vd3)) (sl (oa0 y0 y1) (sl (t1==0) (k ⟨1,W (s.is9+1),1,[[i y0.n.x,i y0.n.y,i y0.n.z,i y0.b]]⟩) (k ⟨0,W (s.is9+1),0,[]⟩)) z) z) (e 1))
def P2{α:Type}(k:k9->α)(e:Nat->α)(z:α)(p:K0)(s:k9):α:=let y1:=(⟨p.fa4,p.Bc4,p.Bc5⟩:V3);let y0:=(gL tP p.vd3 s.is9.toNat);let t1:=(na9 y0 y1);(sl (decide (s.is9<p.is8)) (sl (inB s.is9 (List.length p.vd3)) (sl (oa0 y0 y1) (sl (t1==0) (sl (Nat.beq s.ns4 (len s.eh2)&&Nat.ble ((s.ns4+1)*32) room) (k ⟨1,W (s.is9+1),s.ns4+1,app s.eh2 [[i y0.n.x,i y0.n.y,i y0.n.z,i y0.b]]⟩) z) (k ⟨1,W (s.is9+1),s.ns4,s.eh2⟩)) z) z) (e 2))
def qa8(p:K0)(s:k9):Stp k9:=(sel (Nat.beq s.ph 1) (P2 .next .exit .fail p s) (P1 .next .exit .fail p s))
def Ra2:Lo K0 k9:=⟨En Ab9,1,of1,[1,1,0,1,4,4],[2,4,7,8,9],.p,[⟨sUq::sUq::sPq 1::sUq::.s (.o .nil)::sUq::sUq::sLq tP::sIq::sIq::ru2 15 [],[⟨0,1,true,some [[.c 4 (nL tP)]]⟩,⟨0,3,true,some [kLq 3]⟩],λa H=>(⟨aLq tP a 7,aIq a 8,hLq tP H 0 0 0,hIq H 1 0 0,hIq H 1 0 1,hIq H 1 0 2⟩,⟨0,aIq a 9,0,[]⟩)⟩,⟨sUq::sUq::sPq 1::sUq::.s (.o (.sl 2 0 (some 0) none))::sUq::sUq::sLq tP::sIq::sIq::ru2 15 [],[⟨0,1,true,some [[.c 4 (nL tP)]]⟩,⟨0,3,true,some [kLq 3]⟩,⟨57,4,true,none⟩],λa H=>(⟨aLq tP a 7,aIq a 8,hLq tP H 0 0 0,hIq H 1 0 0,hIq H 1 0 1,hIq H 1 0 2⟩,⟨1,aIq a 9,slN (slT a 4),elT H 2⟩)⟩],qa8,[(some 0,λp s=>upq (eb0 p s) [(10,b (decide (s.is9<p.is8)))]),(some 0,λp s=>upq (eb1 p s) [(10,b (decide (s.is9<p.is8)))])],ic7⟩
theorem ic8:Ra2.Ok:=Lo.okq [] .nil λp s=>(.sel (Nat.beq s.ph 1) (.ofq @P2) (.ofq @P1))
structure ab7 where
 alt:Nat
 bs0:Bool
 X4:PLq
def ab8{α:Type}(kk:ab7->α)(x:ab6):α:=let y0:=(rt tP x.X4);let t1:=(lp (qa8 (⟨y0,(↑(List.length x.X4):Int),y0,x.fb3,x.fb4,x.fb5⟩:K0)) (⟨0,0,0,[]⟩:k9));let t2:=(za2 []);let t3:=(za2 (slR tP t1.2.eh2 0 t1.2.ns4));(sl ((cnE tP x.X4)&&((cnE tP x.X4)&&true)) (sl (Nat.beq t1.1 1) (sl (za3 []) (kk ⟨1,!t2,y0⟩) (kk ⟨0,false,[]⟩)) (sl (Nat.beq t1.1 2) (sl (okS tP t1.2.eh2 0 t1.2.ns4) (sl (za3 (slR tP t1.2.eh2 0 t1.2.ns4)) (kk ⟨1,!t3,y0⟩) (kk ⟨0,false,[]⟩)) (kk ⟨0,false,[]⟩)) (kk ⟨0,false,[]⟩))) (kk ⟨0,false,[]⟩))
def X2(x:ab6):ab7:=ab8 (λr=>r) x
def Bb0(x:ab6)(r:ab7):DT (a7×List b7):=(xa6 r.alt 1 (b r.bs0,[bq 0 1 [[eL tP r.X4]]]) .fail)
def ab9:Sum:=va9 ⟨[.agg (kLq 3),sPq 0],[⟨0,1,true,some [[.c 4 (nL tP)]]⟩],λa H=>(⟨cIq a 0 0,cIq a 0 1,cIq a 0 2,hLq tP H 0 0 0⟩,())⟩ (λx=>Bb0 x (X2 x))
theorem Bb1:d9 prog G 81 ab9:=r5 (enc:=λx=>⟨[.agg [i x.fb3,i x.fb4,i x.fb5],.ptr 0 0 0 0],[bq 0 1 [[eL tP x.X4]]]⟩) (λa H=>by kernel_rfl) (bd b81 qc3) λx=>ha5 (.s .p (.s .p (.s (.s .p (.b (.u Ra2.ls))) .p))) [Ra2.pr] (.cons ic8 .nil) (mEq @ab8 (λr=>(Bb0 x r).run) x)
structure sa7 where
 ns0:Nat
 eh0:List (List a7)
 C0:PLq
def Ma3:List (Nat×Sum):=[(81,ab9)]
theorem xb4:l6 prog G Ma3:=⟨Bb1,trivial⟩
structure M0 where
 ns0:Nat
 is7:Int
 eh0:List (List a7)
structure n7 where
 is8:Int
 C0:PLq
def Ea5(p:M0)(s:n7):St:=⟨.sl 0 0 p.ns0 0::.fn 81 [.ptr 1 0 0 0]::ra 5 (i p.is7::i s.is8::ra 10 []),[bq 52 3 p.eh0,bq 0 1 [[eL tP s.C0]]]⟩
def Q4{α:Type}(k:n7->α)(e:Nat->α)(z:α)(p:M0)(s:n7):α:=let y0:=(rdR tV p.eh0 (0+s.is8.toNat));let t1:=(X2 ⟨y0.x,y0.y,y0.z,rt tP s.C0⟩);(sl (decide (s.is8<p.is7)) (sl (inB s.is8 p.ns0) (sl (ldR tV p.eh0 (0+s.is8.toNat)) (sl ((cnE tP s.C0)&&true) (sl (Nat.beq t1.alt 1) (sl t1.bs0 (e 1) (k ⟨W (s.is8+1),t1.X4⟩)) z) z) z) z) (e 2))
def K1(p:M0)(s:n7):Stp n7:=Q4 .next .exit .fail p s
def la5:Lo M0 n7:=⟨En Ma3,2,Nc8,[1,0,1,4,4],[0,1,7,8],.p,[⟨.s (.o (.sl 0 0 (some 0) none))::.fn 81 [.o (.ptr 1 0 0 0)]::ru2 5 (sIq::sIq::ru2 10 []),[⟨52,3,true,none⟩,⟨0,1,true,some [[.c 4 (nL tP)]]⟩],λa H=>(⟨slN (slT a 0),aIq a 7,elT H 0⟩,⟨aIq a 8,hLq tP H 1 0 0⟩)⟩],K1,[(none,λp s=>let t1:=(X2 ⟨(rdR tV p.eh0 (0+s.is8.toNat)).x,(rdR tV p.eh0 (0+s.is8.toNat)).y,(rdR tV p.eh0 (0+s.is8.toNat)).z,rt tP s.C0⟩);⟨[i s.is8],[bq 52 3 p.eh0,bq 0 1 [[eL tP t1.X4]]]⟩),(some 0,λp s=>upq (Ea5 p s) [(9,b (decide (s.is8<p.is7)))])],Ea5⟩
theorem tb0:la5.Ok:=Lo.okq [] .nil λp s=>(.ofq @Q4)
structure sa8 where
 alt:Nat
 is0:Int
 C0:PLq
def sa9{α:Type}(kk:sa8->α)(x:sa7):α:=let t1:=(lp (K1 (⟨x.ns0,(↑x.ns0:Int),x.eh0⟩:M0)) (⟨0,rt tP x.C0⟩:n7));let y0:=(rdR tV x.eh0 (0+t1.2.is8.toNat));let t2:=(X2 ⟨y0.x,y0.y,y0.z,rt tP t1.2.C0⟩);(sl ((cnE tP x.C0)&&true) (sl (Nat.beq t1.1 1) (kk ⟨1,t1.2.is8,t2.X4⟩) (sl (Nat.beq t1.1 2) (kk ⟨1,-1,t1.2.C0⟩) (kk ⟨0,0,[]⟩))) (kk ⟨0,0,[]⟩))
def aa7(x:sa7):sa8:=sa9 (λr=>r) x
def Ma4(x:sa7)(r:sa8):DT (a7×List b7):=(xa6 r.alt 1 (i r.is0,[bq 52 3 x.eh0,bq 0 1 [[eL tP r.C0]]]) .fail)
def Sa5:Sum:=va9 ⟨[.s (.o (.sl 0 0 (some 0) none)),.fn 81 [.o (.ptr 1 0 0 0)]],[⟨52,3,true,none⟩,⟨0,1,true,some [[.c 4 (nL tP)]]⟩],λa H=>(⟨slN (slT a 0),elT H 0,hLq tP H 1 0 0⟩,())⟩ (λx=>Ma4 x (aa7 x))
theorem Eb4:d9 prog G 109 Sa5:=r5 (enc:=λx=>⟨[.sl 0 0 x.ns0 0,.fn 81 [.ptr 1 0 0 0]],[bq 52 3 x.eh0,bq 0 1 [[eL tP x.C0]]]⟩) (λa H=>by kernel_rfl) (bd Wd8 xb4) λx=>ha5 (.s .p (.s (.s .p (.b (.u la5.ls))) .p)) [la5.pr] (.cons tb0 .nil) (mEq @sa9 (λr=>(Ma4 x r).run) x)
def Ma5:List (Nat×Sum):=[(109,Sa5),(81,ab9)]
theorem xb5:l6 prog G Ma5:=⟨Eb4,Bb1,trivial⟩
structure M1 where
 ns0:Nat
structure q8 where
 (is5 is6:Int)
 eh0:List (List a7)
 C0:PLq
def Ea6(p:M1)(s:q8):St:=⟨.sl 0 0 p.ns0 0::.fn 81 [.ptr 1 0 0 0]::ra 3 (i s.is5::i s.is6::ra 35 []),[bq 52 3 s.eh0,bq 0 1 [[eL tP s.C0]]]⟩
def Q5{α:Type}(k:q8->α)(e:Nat->α)(z:α)(p:M1)(s:q8):α:=let y0:=(rdR tV s.eh0 (0+s.is6.toNat));let t1:=(X2 ⟨y0.x,y0.y,y0.z,rt tP s.C0⟩);(sl (decide (s.is6<(↑p.ns0:Int))) (sl (inB s.is6 p.ns0) (sl (ldR tV s.eh0 (0+s.is6.toNat)) (sl ((cnE tP s.C0)&&true) (sl (Nat.beq t1.alt 1) (sl (!t1.bs0) (sl (inB s.is5 p.ns0) (sl ((Nat.blt (0+s.is5.toNat) (len s.eh0))&&(Nat.ble (0+3) (len (j9 s.eh0 (0+s.is5.toNat))))) (k ⟨W (s.is5+1),W (s.is6+1),setAt s.eh0 (0+s.is5.toNat) (qa9 (j9 s.eh0 (0+s.is5.toNat)) 0 [i y0.x,i y0.y,i y0.z]),t1.X4⟩) z) z) (k ⟨s.is5,W (s.is6+1),s.eh0,t1.X4⟩)) z) z) z) z) (e 1))
def D5(p:M1)(s:q8):Stp q8:=Q5 .next .exit .fail p s
def la6:Lo M1 q8:=⟨En Ma5,2,of2,[1,1,1,0,1,4,4],[0,1,5,6],.p,[⟨.s (.o (.sl 0 0 (some 0) none))::.fn 81 [.o (.ptr 1 0 0 0)]::ru2 3 (sIq::sIq::ru2 35 []),[⟨52,3,true,none⟩,⟨0,1,true,some [[.c 4 (nL tP)]]⟩],λa H=>(⟨slN (slT a 0)⟩,⟨aIq a 5,aIq a 6,elT H 0,hLq tP H 1 0 0⟩)⟩],D5,[(some 0,λp s=>upq (Ea6 p s) [(16,i s.is6),(17,.sl 0 0 p.ns0 0),(18,i (↑p.ns0:Int)),(19,b (decide (s.is6<(↑p.ns0:Int))))])],Ea6⟩
theorem tb1:la6.Ok:=Lo.okq [] .nil λp s=>(.ofq @Q5)
structure ta1 where
 (alt ns0:Nat)
 eh0:List (List a7)
 C0:PLq
def ta2{α:Type}(kk:ta1->α)(x:sa7):α:=let t1:=(aa7 ⟨x.ns0,x.eh0,rt tP x.C0⟩);let t2:=(lp (D5 (⟨x.ns0⟩:M1)) (⟨t1.is0,W (t1.is0+1),x.eh0,rt tP t1.C0⟩:q8));(sl ((cnE tP x.C0)&&true) (sl (Nat.beq t1.alt 1) (sl (t1.is0==(-1)) (kk ⟨1,x.ns0,x.eh0,t1.C0⟩) (sl ((cnE tP t1.C0)&&true) (sl (Nat.beq t2.1 1) (sl (inB t2.2.is5 (x.ns0+1)) (sl (inB t2.2.is5 (x.ns0+1)) (kk ⟨1,t2.2.is5.toNat-0,app (E1 t2.2.eh0 (0+t2.2.is5.toNat)) (app (List.replicate (x.ns0-t2.2.is5.toNat) [i 0,i 0,i 0]) (j5 t2.2.eh0 ((0+t2.2.is5.toNat)+(x.ns0-t2.2.is5.toNat)))),t2.2.C0⟩) (kk ⟨0,0,[],[]⟩)) (kk ⟨0,0,[],[]⟩)) (kk ⟨0,0,[],[]⟩)) (kk ⟨0,0,[],[]⟩))) (kk ⟨0,0,[],[]⟩)) (kk ⟨0,0,[],[]⟩))
def aa8(x:sa7):ta1:=ta2 (λr=>r) x
def Ma6(x:sa7)(r:ta1):DT (a7×List b7):=(xa6 r.alt 1 (.sl 0 0 r.ns0 0,[bq 52 3 r.eh0,bq 0 1 [[eL tP r.C0]]]) .fail)
def Sa6:Sum:=va9 ⟨[.s (.o (.sl 0 0 (some 0) none)),.fn 81 [.o (.ptr 1 0 0 0)]],[⟨52,3,true,none⟩,⟨0,1,true,some [[.c 4 (nL tP)]]⟩],λa H=>(⟨slN (slT a 0),elT H 0,hLq tP H 1 0 0⟩,())⟩ (λx=>Ma6 x (aa8 x))
theorem Eb5:d9 prog G 83 Sa6:=r5 (enc:=λx=>⟨[.sl 0 0 x.ns0 0,.fn 81 [.ptr 1 0 0 0]],[bq 52 3 x.eh0,bq 0 1 [[eL tP x.C0]]]⟩) (λa H=>by kernel_rfl) (bd b83 xb5) λx=>ha5 (.s .p (.s .p (.s .p (.s (.s .p (.b (.u la6.ls))) .p)))) [la6.pr] (.cons tb1 .nil) (mEq @ta2 (λr=>(Ma6 x r).run) x)
def wc9:List (Nat×Sum):=[(47,Ra1),(87,Aa3),(89,Ea2)]
theorem qc4:l6 prog G wc9:=⟨lb0,Wa4,Ya6,trivial⟩
def bb1{α:Type}(kk:Qa9->α)(x:V3×List V3):α:=let t1:=(ia7 (hC tV (λk=>(tV).row (gL tV (x.1::x.2) k)),tC tV (List.length x.2) (λk=>(tV).row (gL tV (x.1::x.2) k))));let t2:=(P0 ⟨t1.ns0,app (bL tV (Sb4 (slR tV t1.eh0 0 t1.ns0))) (j5 t1.eh0 t1.ns0)⟩);(sl (okL tV (List.length x.2+1) (λk=>(tV).row (gL tV (x.1::x.2) k))) (sl (Nat.beq t1.alt 1) (sl (Bool.and (Nat.ble t1.ns0 room) (Bool.and (Nat.ble t1.ns0 (len t1.eh0)) (okS tV t1.eh0 0 t1.ns0))) (sl (Nat.beq t2.alt 1) (kk ⟨1,t2.ns0,t2.eh0⟩) (kk ⟨0,0,[]⟩)) (kk ⟨0,0,[]⟩)) (kk ⟨0,0,[]⟩)) (kk ⟨0,0,[]⟩))
def Ia4(x:V3×List V3):Qa9:=bb1 (λr=>r) x
def Bb2(r:Qa9):DT (a7×List b7):=(xa6 r.alt 1 (.sl 0 0 r.ns0 0,[bq 52 3 r.eh0]) .fail)
def ta3:Sum:=L6 (Jd0 tV) (λx=>Bb2 (Ia4 x))
theorem Ba1:d9 prog G 57 ta3:=fc8 (bd b57 qc4) λx=>ha4 (mEq @bb1 (λr=>(Bb2 r).run) x)
def Rc6:List (Nat×Sum):=[(24,wc7),(57,ta3),(83,Sa6)]
theorem Hc4:l6 prog G Rc6:=⟨kc7,Ba1,Eb5,trivial⟩
def Ea7(x:V3×List V3):ROq:=let t1:=(mb9 (hC tV (λk=>(tV).row (gL tV (x.1::x.2) k)),tC tV (List.length x.2) (λk=>(tV).row (gL tV (x.1::x.2) k))));let t2:=(Ia4 (hC tV (λk=>(tV).row (gL tV (x.1::x.2) k)),tC tV (List.length x.2) (λk=>(tV).row (gL tV (x.1::x.2) k))));let t3:=(aa8 ⟨t2.ns0,t2.eh0,rt tP t1.1⟩);(sl (okL tV (List.length x.2+1) (λk=>(tV).row (gL tV (x.1::x.2) k))) (sl (nb0 (hC tV (λk=>(tV).row (gL tV (x.1::x.2) k)),tC tV (List.length x.2) (λk=>(tV).row (gL tV (x.1::x.2) k)))) (sl (t1.2 != 0) (some (.tup [nlq,i t1.2],[])) (sl (okL tV (List.length x.2+1) (λk=>(tV).row (gL tV (x.1::x.2) k))) (sl (Nat.beq t2.alt 1) (sl ((cnE tP t1.1)&&true) (sl (Nat.beq t3.alt 1) (some (.tup [.sl 0 0 t3.ns0 0,i 0],[bq 52 3 t3.eh0])) none) none) none) none)) none) none)
def ac4(x:V3×List V3):List V3×Int:=O8 (two (r1L tV) r1I) (Ea7 x)
def ac5(x:V3×List V3):Bool:=okO (two (r1L tV) r1I) (Ea7 x)
def hd6:Sum:=L6 (Jd0 tV) (λx=>.guard (ac5 x) (.ret ((two (r1L tV) r1I).enc (ac4 x),[])))
theorem Rc7:d9 prog G 53 hd6:=Ra7 (bd b53 Hc4) (two (r1L tV) r1I) (o:=Ea7)
end Go.Ev.Ce
namespace Go.Ev.L
open Go Go.Ev
def ff4:Cod Unit where
 enc _:=.v (.slice none 0 0)
 dec x:=match x with
  |.v (.slice none 0 0)=>some ()
  |_=>none
 grd _:=true
 ok x a hx _:=by
  split at hx
  ·exact .refl _
  ·cases hx
def cE0:Cod (Addr×Nat) where
 enc z:=.v (.slice (some z.1) 0 z.2)
 dec x:=match x with
  |.v (.slice (some a) 0 c)=>some (a,c)
  |_=>none
 grd _:=true
 ok x a hx _:=by
  split at hx
  ·cases hx;exact .refl _
  ·cases hx
section
variable{α:Type}{t:Ty α}{P:Program}{G:Nat->List Value}{f:FuncId}
theorem gc6{β:Type}{c:Cod β}{k k':β->DT (a7×List b7)}(h:d9 P G f (L6 c k))(hk:∀a r,(k' a).run=some r->(k a).run=some r):d9 P G f (L6 c k'):=h.le λargs blks r hr=>by
 unfold L6 at hr ⊢
 split at hr
 ·obtain⟨a,h1,hr⟩:=na5 hr;obtain⟨g,hr⟩:=DT.run_guard_some hr;simp only[h1,onO,g];exact hk a r hr
 ·cases hr
theorem Ae6{k:List α->DT (a7×List b7)}(hA:d9 P G f (L6 (Jd0 t) λz=>k (z.1::z.2)))(hN:d9 P G f (L6 ff4 λ_=>k []))(hE:d9 P G f (L6 cE0 λ_=>k [])):d9 P G f (L6 (db5 t) k):=by
 intro args blks r out he W ρ F w args' hH hlen hargs hG;unfold L6 at he
 split at he
 ·rename_i x;obtain⟨a,h1,he⟩:=na5 he;obtain⟨g1,hk⟩:=DT.run_guard_some he;have nilCase:∀v',args'[0]?=some v'->v'=.slice none 0 0->a=[]->qb4 P f/\Calls P f args'.toArray w λe w'=>∃r',e=.returned r'/\J6 W ρ [] F w r out r' w':=λv' hv e ha=>by
   subst ha;refine hN [.v (.slice none 0 0)] [] r out ?_ W ρ F w args' hH hlen (λi x' y' hx hy=>?_) hG
   ·exact hk
   ·match i with
    |0=>cases hx;rw[hv] at hy;cases hy;rw[e];exact .val (.cell (.v _))
    |i+1=>cases hx
  have emptyCase:∀v' ad c,args'[0]?=some v'->v'=.slice (some ad) 0 c->a=[]->qb4 P f/\Calls P f args'.toArray w λe w'=>∃r',e=.returned r'/\J6 W ρ [] F w r out r' w':=λv' ad c hv e ha=>by
   subst ha;refine hE [.v (.slice (some ad) 0 c)] [] r out ?_ W ρ F w args' hH hlen (λi x' y' hx hy=>?_) hG
   ·exact hk
   ·match i with
    |0=>cases hx;rw[hv] at hy;cases hy;rw[e];exact .val (.cell (.v _))
    |i+1=>cases hx
  obtain⟨v',hv⟩:∃v',args'[0]?=some v':=by
   cases args' with
   |nil=>simp at hlen
   |cons v' r'=>exact⟨v',rfl⟩
  cases x with
  |tree e n get =>
   have hb:Nat.beq e t.es=true/\a=lsL t n get:=by
    have h1:(Bool.rec none (some (lsL t n get)) (Nat.beq e t.es):Option (List α))=some a:=h1;cases hb:Nat.beq e t.es with
    |false=>rw[hb] at h1;cases h1
    |true =>
     simp_all
   cases n with
   |zero =>
    have ha:a=[]:=hb.2;have hm:=ra1 (hargs 0 _ v' rfl hv);cases hm with
    |tree _ _ _ ad cap cs hs hcap hes hF hw hr=>exact emptyCase _ ad cap hv rfl ha
    |nil=>exact nilCase _ hv rfl ha
   |succ m =>
    have ha:a=hC t get::tC t m get:=hb.2.trans (Id9 t m get);subst ha;refine hA [.tree e (m+1) get] [] r out ?_ W ρ F w args' hH hlen hargs hG;have hc:(Jd0 t).dec (.tree e (m+1) get)=some (hC t get,tC t m get):=by
     show (Bool.rec none (some (hC t get,tC t m get)) (Nat.beq e t.es):Option (α×List α))=_;rw[hb.1]
    have hg:(Jd0 t).grd (.tree e (m+1) get)=true:=g1;simp only[L6,hc,onO,hg];exact hk
  |v q =>
   have hq:=V8 (hargs 0 _ v' rfl hv);unfold db5 at h1
   grind
  |_=>cases h1
 ·cases he
end
end Go.Ev.L
namespace Go.Ev.Ce
open Go Go.Ev Go.Ev.L Go.Proofs
set_option maxRecDepth 100000
def hd7:List (Nat×Sum):=[(56,Wa0),(57,ta3),(58,ra9)]
theorem Rc8:l6 prog G hd7:=⟨cb5,Ba1,ya0,trivial⟩
def Eb6(x:Unit):ROq:=let t1:=(wa8 []);(sl (wa9 []) (sl (t1 != 0) (some (.tup [nlq,i t1],[])) none) none)
def kc9(x:Unit):PLq×Int:=O8 (two (r1L tP) r1I) (Eb6 x)
def lc0(x:Unit):Bool:=okO (two (r1L tP) r1I) (Eb6 x)
def Eb7:Sum:=L6 ff4 (λx=>.guard (lc0 x) (.ret ((two (r1L tP) r1I).enc (kc9 x),[])))
theorem tb2:d9 prog G 24 Eb7:=Ec5 (bd b24 Rc8) (two (r1L tP) r1I) (o:=Eb6) λx=>fd1 .p [] .nil
def Hc5:List (Nat×Sum):=[(24,Eb7),(57,ta3)]
theorem xc0:l6 prog G Hc5:=⟨tb2,Ba1,trivial⟩
def ib9(x:Unit):ROq:=let t1:=(kc9 ());(sl (lc0 ()) (sl (t1.2 != 0) (some (.tup [nlq,i t1.2],[])) none) none)
def Rc9(x:Unit):List V3×Int:=O8 (two (r1L tV) r1I) (ib9 x)
def Sc0(x:Unit):Bool:=okO (two (r1L tV) r1I) (ib9 x)
def Sc1:Sum:=L6 ff4 (λx=>.guard (Sc0 x) (.ret ((two (r1L tV) r1I).enc (Rc9 x),[])))
theorem Hc6:d9 prog G 53 Sc1:=Ra7 (bd b53 xc0) (two (r1L tV) r1I) (o:=ib9)
def hd8:List (Nat×Sum):=[(58,ra9)]
theorem Sc2:l6 prog G hd8:=⟨ya0,trivial⟩
def Eb8(x:Addr×Nat):ROq:=none
def lc1(x:Addr×Nat):PLq×Int:=O8 (two (r1L tP) r1I) (Eb8 x)
def lc2(x:Addr×Nat):Bool:=okO (two (r1L tP) r1I) (Eb8 x)
def lc3:Sum:=L6 cE0 (λx=>.guard (lc2 x) (.ret ((two (r1L tP) r1I).enc (lc1 x),[])))
theorem ac6:d9 prog G 24 lc3:=Ec5 (bd b24 Sc2) (two (r1L tP) r1I) (o:=Eb8) λx=>fd1 .p [] .nil
def Hc7:List (Nat×Sum):=[(24,lc3),(57,ta3)]
theorem xc1:l6 prog G Hc7:=⟨ac6,Ba1,trivial⟩
def jb0(x:Addr×Nat):ROq:=let t1:=(lc1 x);(sl (lc2 x) (sl (t1.2 != 0) (some (.tup [nlq,i t1.2],[])) none) none)
def Sc3(x:Addr×Nat):List V3×Int:=O8 (two (r1L tV) r1I) (jb0 x)
def Sc4(x:Addr×Nat):Bool:=okO (two (r1L tV) r1I) (jb0 x)
def Sc5:Sum:=L6 cE0 (λx=>.guard (Sc4 x) (.ret ((two (r1L tV) r1I).enc (Sc3 x),[])))
theorem Hc8:d9 prog G 53 Sc5:=Ra7 (bd b53 xc1) (two (r1L tV) r1I) (o:=jb0)
def hd9:List (Nat×Sum):=[(56,Wa0),(58,ra9)]
theorem Sc6:l6 prog G hd9:=⟨cb5,ya0,trivial⟩
def Ma7(x:List V3):ROq:=let t1:=(wa8 (rt tV x));(sl (okE tV x) (sl (wa9 (rt tV x)) (sl (t1 != 0) (some (.tup [nlq,i t1],[])) none) none) none)
def cb7(x:List V3):PLq×Int:=O8 (two (r1L tP) r1I) (Ma7 x)
def cb8(x:List V3):Bool:=okO (two (r1L tP) r1I) (Ma7 x)
def lc4:Sum:=L6 (db5 tV) (λx=>.guard (cb8 x) (.ret ((two (r1L tP) r1I).enc (cb7 x),[])))
theorem ac7:d9 prog G 24 lc4:=Ec5 (bd b24 Sc6) (two (r1L tP) r1I) (o:=Ma7) λx=>fd1 .p [] .nil
def Hc9:List (Nat×Sum):=[(24,lc4)]
theorem xc2:l6 prog G Hc9:=⟨ac7,trivial⟩
def ya6(x:List V3):ROq:=let t1:=(cb7 (rt tV x));(sl (okE tV x) (sl (cb8 (rt tV x)) (sl (t1.2 != 0) (some (.tup [nlq,i t1.2],[])) none) none) none)
def jb1(x:List V3):List V3×Int:=O8 (two (r1L tV) r1I) (ya6 x)
def jb2(x:List V3):Bool:=okO (two (r1L tV) r1I) (ya6 x)
def Sc7:Sum:=L6 (db5 tV) (λx=>.guard (jb2 x) (.ret ((two (r1L tV) r1I).enc (jb1 x),[])))
theorem Ic0:d9 prog G 53 Sc7:=Ra7 (bd b53 xc2) (two (r1L tV) r1I) (o:=ya6)
def rm(p:Pln)(x:Pt):Int:=W (p.b*x.pw-(p.n.x*x.px+p.n.y*x.py+p.n.z*x.pz))
structure Bd(p:Pln):Prop where
 x1:-4608<=p.n.x
 x2:p.n.x<=4608
 y1:-4608<=p.n.y
 y2:p.n.y<=4608
 z1:-4608<=p.n.z
 z2:p.n.z<=4608
 b1:-2097152<=p.b
 b2:p.b<=2097152
def mv(p q r:Pln):V3 :=
 ⟨(d7 q.n r.n).x*p.b+(d7 r.n p.n).x*q.b+(d7 p.n q.n).x*r.b,
  (d7 q.n r.n).y*p.b+(d7 r.n p.n).y*q.b+(d7 p.n q.n).y*r.b,
  (d7 q.n r.n).z*p.b+(d7 r.n p.n).z*q.b+(d7 p.n q.n).z*r.b⟩
def gc(v:V3)(w:Int):Int:=(Nat.gcd (Nat.gcd v.x.natAbs v.y.natAbs) (Nat.gcd v.z.natAbs w.natAbs):Nat)
def mpt(p q r:Pln):Pt×Bool :=
 if mw p q r=0 then (⟨0,0,0,0⟩,false)
 else if mw p q r<0 then (⟨Int.tdiv (-(mv p q r).x) (gc (mv p q r) (mw p q r)),Int.tdiv (-(mv p q r).y) (gc (mv p q r) (mw p q r)),Int.tdiv (-(mv p q r).z) (gc (mv p q r) (mw p q r)),Int.tdiv (-(mw p q r)) (gc (mv p q r) (mw p q r))⟩,true)
 else (⟨Int.tdiv (mv p q r).x (gc (mv p q r) (mw p q r)),Int.tdiv (mv p q r).y (gc (mv p q r) (mw p q r)),Int.tdiv (mv p q r).z (gc (mv p q r) (mw p q r)),Int.tdiv (mw p q r) (gc (mv p q r) (mw p q r))⟩,true)
def Sm(n:Int)(x:Int):Prop:=-n<=x/\x<=n
theorem ac8{a b:V3}(ha:Sm 4608 a.x/\Sm 4608 a.y/\Sm 4608 a.z)(hb:Sm 4608 b.x/\Sm 4608 b.y/\Sm 4608 b.z):Sm 42467328 (d7 a b).x/\Sm 42467328 (d7 a b).y/\Sm 42467328 (d7 a b).z:=by
 obtain⟨⟨a1,a2⟩,⟨a3,a4⟩,a5,a6⟩:=ha;obtain⟨⟨b1,b2⟩,⟨b3,b4⟩,b5,b6⟩:=hb;have h1:=mb a3 a4 b5 b6;have h2:=mb a5 a6 b3 b4;have h3:=mb a5 a6 b1 b2;have h4:=mb a1 a2 b5 b6;have h5:=mb a1 a2 b3 b4;have h6:=mb a3 a4 b1 b2;unfold Sm d7
 simp only
 omega
theorem Bd.n{p:Pln}(h:Bd p):Sm 4608 p.n.x/\Sm 4608 p.n.y/\Sm 4608 p.n.z:=⟨⟨h.x1,h.x2⟩,⟨h.y1,h.y2⟩,h.z1,h.z2⟩
theorem qf6{p q r:Pln}(hp:Bd p)(hq:Bd q)(hr:Bd r):Sm 600000000000 (mw p q r):=by
 obtain⟨⟨c1,c2⟩,⟨c3,c4⟩,c5,c6⟩:=ac8 hq.n hr.n;have h1:=mb hp.x1 hp.x2 c1 c2;have h2:=mb hp.y1 hp.y2 c3 c4;have h3:=mb hp.z1 hp.z2 c5 c6;unfold Sm mw dot;omega
theorem qf7{p q r:Pln}(hp:Bd p)(hq:Bd q)(hr:Bd r):Sm 300000000000000 (mv p q r).x/\Sm 300000000000000 (mv p q r).y/\Sm 300000000000000 (mv p q r).z:=by
 obtain⟨⟨c1,c2⟩,⟨c3,c4⟩,c5,c6⟩:=ac8 hq.n hr.n;obtain⟨⟨d1,d2⟩,⟨d3,d4⟩,d5,d6⟩:=ac8 hr.n hp.n;obtain⟨⟨e1,e2⟩,⟨e3,e4⟩,e5,e6⟩:=ac8 hp.n hq.n;have a1:=mb c1 c2 hp.b1 hp.b2;have a2:=mb c3 c4 hp.b1 hp.b2;have a3:=mb c5 c6 hp.b1 hp.b2;have b1:=mb d1 d2 hq.b1 hq.b2;have b2:=mb d3 d4 hq.b1 hq.b2;have b3:=mb d5 d6 hq.b1 hq.b2;have f1:=mb e1 e2 hr.b1 hr.b2;have f2:=mb e3 e4 hr.b1 hr.b2;have f3:=mb e5 e6 hr.b1 hr.b2;unfold Sm mv
 simp only
 omega
theorem Pe3(a b:V3):fa6 a b=⟨W (d7 a b).x,W (d7 a b).y,W (d7 a b).z⟩:=by
 unfold fa6 d7;simp only[Ae2,Ae3]
theorem Pe4(a b:V3):Ab1 a b=⟨W (d7 a b).x,W (d7 a b).y,W (d7 a b).z⟩:=by
 unfold Ab1 d7;simp only[Ae2,Ae3]
theorem Xd1{v:V3}{w:Int}(h:w≠0):0<gc v w:=by
 unfold gc
 have:0<Nat.gcd v.z.natAbs w.natAbs:=Qhb _ (by omega)
 have:=Qhb (Nat.gcd v.x.natAbs v.y.natAbs) this
 omega
theorem qf8{v:V3}{w:Int}(h:w≠0):gc v w<=w.natAbs:=by
 unfold gc;have h1:Nat.gcd v.z.natAbs w.natAbs<=w.natAbs:=Nat.gcd_le_right _ (by omega)
 have h2:0<Nat.gcd v.z.natAbs w.natAbs:=Qhb _ (by omega)
 have h3:=Nat.gcd_le_right (m:=Nat.gcd v.x.natAbs v.y.natAbs) (n:=Nat.gcd v.z.natAbs w.natAbs) h2;omega
theorem Ic1{x:Int}(h:Sm 1000000000000000000 x):W x=x:=ia6 (by have:=h.1;omega) (by have:=h.2;omega)
theorem Sm.mono{n m x:Int}(h:Sm n x)(hn:n<=m):Sm m x:=⟨by have:=h.1;omega,by have:=h.2;omega⟩
theorem oa3{n x g:Int}(h:Sm n x)(hg:0<g):Sm n (Int.tdiv x g):=by
 have h1:(Int.tdiv x g).natAbs<=x.natAbs:=by rw[Int.natAbs_tdiv];exact Nat.div_le_self _ _
 have:=h.1;have:=h.2
 constructor<;>omega
theorem Xd2{p q r:Pln}(hp:Bd p)(hq:Bd q)(hr:Bd r)(h:(mpt p q r).2=true):0<(mpt p q r).1.pw/\Sm 300000000000000 (mpt p q r).1.px/\Sm 300000000000000 (mpt p q r).1.py/\Sm 300000000000000 (mpt p q r).1.pz/\(mpt p q r).1.pw<=600000000000:=by
 have hw:=qf6 hp hq hr;obtain⟨v1,v2,v3⟩:=qf7 hp hq hr;have neg:∀{n x:Int},Sm n x->Sm n (-x):=λh=>⟨by have:=h.2;omega,by have:=h.1;omega⟩
 have pos:∀{x:Int},0<x->x.natAbs=(mw p q r).natAbs->0<Int.tdiv x (gc (mv p q r) (mw p q r)):=λ{x} hx he=>by
  have h0:mw p q r≠0:=by omega
  have h1:=Xd1 (v:=mv p q r) h0;have h2:=qf8 (v:=mv p q r) h0;rw[Int.tdiv_eq_ediv_of_nonneg (by omega)]
  exact Int.ediv_pos_of_pos_of_dvd hx (by omega) (by
   rw[<- Int.dvd_natAbs,he];exact Int.natCast_dvd_natCast.2 (Nat.dvd_trans (Nat.gcd_dvd_right _ _) (Nat.gcd_dvd_right _ _)))
 unfold mpt at h ⊢;by_cases h0:mw p q r=0
 ·rw[if_pos h0] at h;cases h
 ·rw[if_neg h0];have hg:=Xd1 (v:=mv p q r) h0;by_cases h1:mw p q r<0
  ·rw[if_pos h1];exact⟨pos (by omega) (by omega),oa3 (neg v1) hg,oa3 (neg v2) hg,oa3 (neg v3) hg,(oa3 (neg hw) hg).2⟩
  ·rw[if_neg h1];exact⟨pos (by omega) rfl,oa3 v1 hg,oa3 v2 hg,oa3 v3 hg,(oa3 hw hg).2⟩
end Go.Ev.Ce
