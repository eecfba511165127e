/- Own work: a part of the proof. -/
import Derived.Test.YtekgjjgbdcgldaaGreatEvBd
import Derived.Test.YtekgjjgbdcgldaaGreatChecked
import Derived.Test.YtekgjjgbdcgldaaGreatEvOCePf
import Derived.KernelRfl
import Derived.Test.YtekgjjgbdcgldaaGreatEvSp3
import Derived.Test.YtekgjjgbdcgldaaGreatEvMem
import Derived.Shelf.Spec.SlicesGrow
set_option linter.unusedVariables false
set_option linter.unusedSimpArgs false
set_option linter.unnecessarySimpa false
set_option linter.unusedSectionVars false
section
namespace Go.Ev.Ce
open Go Go.Ev Go.Proofs
set_option maxRecDepth 1000000
theorem mx:(Tryz.prog).follows .mixedOrders=true:=Checked.mixed Tryz.checked
theorem b3:C0 Tryz.prog 3 fun E=>n4 E pf3:=D6 mx Tryz.func3 (by kernel_rfl) (i9 (by kernel_rfl))
theorem b4:C0 Tryz.prog 4 fun E=>n4 E pf4:=D6 mx Tryz.func4 (by kernel_rfl) (i9 (by kernel_rfl))
theorem b5:C0 Tryz.prog 5 fun E=>n4 E pf5:=D6 mx Tryz.func5 (by kernel_rfl) (i9 (by kernel_rfl))
theorem b6:C0 Tryz.prog 6 fun E=>n4 E pf6:=D6 mx Tryz.func6 (by kernel_rfl) (i9 (by kernel_rfl))
theorem b15:C0 Tryz.prog 15 fun E=>n4 E We6:=D6 mx Tryz.func15 (by kernel_rfl) (i9 (by kernel_rfl))
theorem b19:C0 Tryz.prog 19 fun E=>n4 E We7:=D6 mx Tryz.func19 (by kernel_rfl) (i9 (by kernel_rfl))
theorem b21:C0 Tryz.prog 21 fun E=>n4 E We8:=D6 mx Tryz.func21 (by kernel_rfl) (i9 (by kernel_rfl))
theorem b23:C0 Tryz.prog 23 fun E=>n4 E Oe0:=D6 mx Tryz.func23 (by kernel_rfl) (i9 (by kernel_rfl))
theorem b24:C0 Tryz.prog 24 fun E=>n4 E We9:=D6 mx Tryz.func24 (by kernel_rfl) (i9 (by kernel_rfl))
theorem b25:C0 Tryz.prog 25 fun E=>n4 E Oe1:=D6 mx Tryz.func25 (by kernel_rfl) (i9 (by kernel_rfl))
theorem b27:C0 Tryz.prog 27 fun E=>n4 E Xe0:=D6 mx Tryz.func27 (by kernel_rfl) (i9 (by kernel_rfl))
theorem b28:C0 Tryz.prog 28 fun E=>n4 E Xe1:=D6 mx Tryz.func28 (by kernel_rfl) (i9 (by kernel_rfl))
theorem b30:C0 Tryz.prog 30 fun E=>n4 E Oe2:=D6 mx Tryz.func30 (by kernel_rfl) (i9 (by kernel_rfl))
theorem b31:C0 Tryz.prog 31 fun E=>n4 E Oe3:=D6 mx Tryz.func31 (by kernel_rfl) (i9 (by kernel_rfl))
theorem b33:C0 Tryz.prog 33 fun E=>n4 E Xe2:=D6 mx Tryz.func33 (by kernel_rfl) (i9 (by kernel_rfl))
theorem b34:C0 Tryz.prog 34 fun E=>n4 E Xe3:=D6 mx Tryz.func34 (by kernel_rfl) (i9 (by kernel_rfl))
theorem b35:C0 Tryz.prog 35 fun E=>n4 E Xe4:=D6 mx Tryz.func35 (by kernel_rfl) (i9 (by kernel_rfl))
theorem b36:C0 Tryz.prog 36 fun E=>n4 E Oe4:=D6 mx Tryz.func36 (by kernel_rfl) (i9 (by kernel_rfl))
theorem b52:C0 Tryz.prog 52 fun E=>n4 E Xe5:=D6 mx Tryz.func52 (by kernel_rfl) (i9 (by kernel_rfl))
theorem b64:C0 Tryz.prog 64 fun E=>mb8 E qe4:=Zd0 (h:=h64) mx Tryz.func64 (by kernel_rfl) Tryz.func176 (by kernel_rfl) (i9 (by kernel_rfl))
theorem b67:C0 Tryz.prog 67 fun E=>n4 E Xe6:=D6 mx Tryz.func67 (by kernel_rfl) (i9 (by kernel_rfl))
theorem b68:C0 Tryz.prog 68 fun E=>n4 E Xe7:=D6 mx Tryz.func68 (by kernel_rfl) (i9 (by kernel_rfl))
theorem b74:C0 Tryz.prog 74 fun E=>n4 E Fe9:=D6 mx Tryz.func74 (by kernel_rfl) (i9 (by kernel_rfl))
theorem b75:C0 Tryz.prog 75 fun E=>n4 E Xe8:=D6 mx Tryz.func75 (by kernel_rfl) (i9 (by kernel_rfl))
theorem b77:C0 Tryz.prog 77 fun E=>n4 E Xe9:=D6 mx Tryz.func77 (by kernel_rfl) (i9 (by kernel_rfl))
theorem b78:C0 Tryz.prog 78 fun E=>n4 E Zd1:=D6 mx Tryz.func78 (by kernel_rfl) (i9 (by kernel_rfl))
theorem b79:C0 Tryz.prog 79 fun E=>mb8 E Ge0:=Zd0 (h:=h79) mx Tryz.func79 (by kernel_rfl) Tryz.func176 (by kernel_rfl) (i9 (by kernel_rfl))
theorem b80:C0 Tryz.prog 80 fun E=>n4 E Ye0:=D6 mx Tryz.func80 (by kernel_rfl) (i9 (by kernel_rfl))
theorem b83:C0 Tryz.prog 83 fun E=>n4 E Ye1:=D6 mx Tryz.func83 (by kernel_rfl) (i9 (by kernel_rfl))
theorem b84:C0 Tryz.prog 84 fun E=>n4 E Ye2:=D6 mx Tryz.func84 (by kernel_rfl) (i9 (by kernel_rfl))
theorem b85:C0 Tryz.prog 85 fun E=>n4 E Ye3:=D6 mx Tryz.func85 (by kernel_rfl) (i9 (by kernel_rfl))
theorem b86:C0 Tryz.prog 86 fun E=>n4 E Ye4:=D6 mx Tryz.func86 (by kernel_rfl) (i9 (by kernel_rfl))
theorem b87:C0 Tryz.prog 87 fun E=>n4 E Ye5:=D6 mx Tryz.func87 (by kernel_rfl) (i9 (by kernel_rfl))
theorem b88:C0 Tryz.prog 88 fun E=>n4 E Ye6:=D6 mx Tryz.func88 (by kernel_rfl) (i9 (by kernel_rfl))
theorem b89:C0 Tryz.prog 89 fun E=>n4 E Oe5:=D6 mx Tryz.func89 (by kernel_rfl) (i9 (by kernel_rfl))
theorem b90:C0 Tryz.prog 90 fun E=>n4 E Ge1:=D6 mx Tryz.func90 (by kernel_rfl) (i9 (by kernel_rfl))
theorem b91:C0 Tryz.prog 91 fun E=>n4 E Oe6:=D6 mx Tryz.func91 (by kernel_rfl) (i9 (by kernel_rfl))
theorem b92:C0 Tryz.prog 92 fun E=>n4 E Ye7:=D6 mx Tryz.func92 (by kernel_rfl) (i9 (by kernel_rfl))
theorem Ye8:C0 Tryz.prog 107 fun E=>n4 E Oe7:=D6 mx Tryz.func107 (by kernel_rfl) (i9 (by kernel_rfl))
theorem Ye9:C0 Tryz.prog 108 fun E=>n4 E Oe8:=D6 mx Tryz.func108 (by kernel_rfl) (i9 (by kernel_rfl))
theorem Ze0:C0 Tryz.prog 118 fun E=>n4 E Oe9:=D6 mx Tryz.func118 (by kernel_rfl) (i9 (by kernel_rfl))
theorem Ze1:C0 Tryz.prog 119 fun E=>n4 E ze9:=D6 mx Tryz.func119 (by kernel_rfl) (i9 (by kernel_rfl))
theorem Ze2:C0 Tryz.prog 120 fun E=>n4 E Pe0:=D6 mx Tryz.func120 (by kernel_rfl) (i9 (by kernel_rfl))
theorem Ze3:C0 Tryz.prog 122 fun E=>n4 E Pe1:=D6 mx Tryz.func122 (by kernel_rfl) (i9 (by kernel_rfl))
theorem Ze4:C0 Tryz.prog 128 fun E=>n4 E Pe2:=D6 mx Tryz.func128 (by kernel_rfl) (i9 (by kernel_rfl))
theorem Ze5:C0 Tryz.prog 129 fun E=>n4 E Ae0:=D6 mx Tryz.func129 (by kernel_rfl) (i9 (by kernel_rfl))
theorem Ze6:C0 Tryz.prog 130 fun E=>n4 E Pe3:=D6 mx Tryz.func130 (by kernel_rfl) (i9 (by kernel_rfl))
theorem Ze7:C0 Tryz.prog 131 fun E=>n4 E Pe4:=D6 mx Tryz.func131 (by kernel_rfl) (i9 (by kernel_rfl))
theorem Ze8:C0 Tryz.prog 135 fun E=>n4 E Pe5:=D6 mx Tryz.func135 (by kernel_rfl) (i9 (by kernel_rfl))
theorem Ze9:C0 Tryz.prog 138 fun E=>n4 E Ae1:=D6 mx Tryz.func138 (by kernel_rfl) (i9 (by kernel_rfl))
theorem Re5:C0 Tryz.prog 139 fun E=>n4 E Zd2:=D6 mx Tryz.func139 (by kernel_rfl) (i9 (by kernel_rfl))
theorem af0:C0 Tryz.prog 140 fun E=>n4 E Pe6:=D6 mx Tryz.func140 (by kernel_rfl) (i9 (by kernel_rfl))
theorem af1:C0 Tryz.prog 141 fun E=>n4 E Pe7:=D6 mx Tryz.func141 (by kernel_rfl) (i9 (by kernel_rfl))
theorem af2:C0 Tryz.prog 142 fun E=>n4 E Pe8:=D6 mx Tryz.func142 (by kernel_rfl) (i9 (by kernel_rfl))
theorem af3:C0 Tryz.prog 143 fun E=>n4 E Pe9:=D6 mx Tryz.func143 (by kernel_rfl) (i9 (by kernel_rfl))
theorem qe5:C0 Tryz.prog 144 fun E=>n4 E ld2:=D6 mx Tryz.func144 (by kernel_rfl) (i9 (by kernel_rfl))
theorem af4:C0 Tryz.prog 145 fun E=>n4 E Qe0:=D6 mx Tryz.func145 (by kernel_rfl) (i9 (by kernel_rfl))
theorem af5:C0 Tryz.prog 147 fun E=>n4 E Qe1:=D6 mx Tryz.func147 (by kernel_rfl) (i9 (by kernel_rfl))
theorem af6:C0 Tryz.prog 148 fun E=>n4 E Zd3:=D6 mx Tryz.func148 (by kernel_rfl) (i9 (by kernel_rfl))
theorem af7:C0 Tryz.prog 156 fun E=>n4 E Qe2:=D6 mx Tryz.func156 (by kernel_rfl) (i9 (by kernel_rfl))
theorem af8:C0 Tryz.prog 162 fun E=>n4 E Qe3:=D6 mx Tryz.func162 (by kernel_rfl) (i9 (by kernel_rfl))
theorem af9:C0 Tryz.prog 163 fun E=>n4 E Ae2:=D6 mx Tryz.func163 (by kernel_rfl) (i9 (by kernel_rfl))
theorem bf0:C0 Tryz.prog 164 fun E=>n4 E Qe4:=D6 mx Tryz.func164 (by kernel_rfl) (i9 (by kernel_rfl))
theorem bf1:C0 Tryz.prog 173 fun E=>n4 E Qe5:=D6 mx Tryz.func173 (by kernel_rfl) (i9 (by kernel_rfl))
theorem Ge2:C0 Tryz.prog 174 fun E=>n4 E Qe6:=D6 mx Tryz.func174 (by kernel_rfl) (i9 (by kernel_rfl))
theorem bf2:C0 Tryz.prog 175 fun E=>mb8 E Fd4:=Zd0 (h:=Ne9) mx Tryz.func175 (by kernel_rfl) Tryz.func176 (by kernel_rfl) (i9 (by kernel_rfl))
theorem bf3:C0 Tryz.prog 177 fun E=>n4 E Qe7:=D6 mx Tryz.func177 (by kernel_rfl) (i9 (by kernel_rfl))
theorem bf4:C0 Tryz.prog 178 fun E=>n4 E Qe8:=D6 mx Tryz.func178 (by kernel_rfl) (i9 (by kernel_rfl))
theorem bf5:C0 Tryz.prog 183 fun E=>n4 E Qe9:=D6 mx Tryz.func183 (by kernel_rfl) (i9 (by kernel_rfl))
theorem bf6:C0 Tryz.prog 184 fun E=>n4 E Re0:=D6 mx Tryz.func184 (by kernel_rfl) (i9 (by kernel_rfl))
theorem bf7:C0 Tryz.prog 186 fun E=>n4 E Zd4:=D6 mx Tryz.func186 (by kernel_rfl) (i9 (by kernel_rfl))
theorem bf8:C0 Tryz.prog 188 fun E=>n4 E Ae3:=D6 mx Tryz.func188 (by kernel_rfl) (i9 (by kernel_rfl))
theorem bf9:C0 Tryz.prog 189 fun E=>n4 E Re1:=D6 mx Tryz.func189 (by kernel_rfl) (i9 (by kernel_rfl))
theorem cf0:C0 Tryz.prog 191 fun E=>n4 E Ae4:=D6 mx Tryz.func191 (by kernel_rfl) (i9 (by kernel_rfl))
theorem cf1:C0 Tryz.prog 197 fun E=>n4 E Re2:=D6 mx Tryz.func197 (by kernel_rfl) (i9 (by kernel_rfl))
theorem cf2:C0 Tryz.prog 198 fun E=>n4 E Re3:=D6 mx Tryz.func198 (by kernel_rfl) (i9 (by kernel_rfl))
theorem cf3:C0 Tryz.prog 220 fun E=>n4 E Re4:=D6 mx Tryz.func220 (by kernel_rfl) (i9 (by kernel_rfl))
end Go.Ev.Ce
end
namespace Go.Ev.L
open Go Go.Ev
noncomputable def vb9:RT→PC→PS2
 | .s a b,.seq x y=>.seq (vb9 a x) (vb9 b y)
 | .c a b,.cond g x y=>.cond g (vb9 a x) (vb9 b y)
 | .b a,.block id x=>.block id (vb9 a x)
 | .i a,.inner f x n c=>.inner f x n (vb9 a c)
 | .u S,_=>.sum S
 | _,c=>.pc c
theorem Xc8 {E:Env} {k:Nat} (rt:RT) (c:PC):Ba2 (fun x=>∀ s,S7 (x.1 s) (J7 E k x.2 s)) (Db0 rt c)→da1 E k (vb9 rt c) c:=by
 induction rt generalizing c with
 | p=>intro h;cases c<;>exact .pc _
 | s a b iha ihb =>
  intro h
  cases c with
  | seq x y=>exact .seq (iha x (Ba2.app h).1) (ihb y (Ba2.app h).2)
  | _=>exact .pc _
 | c a b iha ihb =>
  intro h
  cases c with
  | cond g x y=>exact .cond g (iha x (Ba2.app h).1) (ihb y (Ba2.app h).2)
  | _=>exact .pc _
 | b a iha =>
  intro h
  cases c with
  | block id x=>exact .block id (iha x h)
  | _=>exact .pc _
 | l a iha=>intro h;cases c<;>exact .pc _
 | i a iha =>
  intro h
  cases c with
  | inner f x n c=>exact .inner f x n (iha c h)
  | _=>exact .pc _
 | u S =>
  intro h
  have:Db0 (.u S) c=[(S,c)]:=by cases c<;>rfl
  rw[this] at h
  cases h with
  | cons h t =>
   have e:vb9 (.u S) c=.sum S:=by cases c<;>rfl
   rw[e]
   exact .sum h
section
variable {π σ:Type} {E:Env} {k:Nat} {keep:List Nat} {alts:List (Al2 π σ)} {enc:π→σ→St} {step:π→σ→Stp σ} {xs:Xs π σ} {body:PS2} {c:PC}
theorem vb0.belowM (hb:da1 E k body c) (hN:E.N=rounds+1) (w:vb0 ld1 k keep (Yb2 E k body) alts step xs enc) (s:St):S7 (Pc5 ld1 k keep alts step xs s) (J7 E k (.loopM keep c) s):=fun r hr=>by
 obtain⟨t,h1,h2⟩:=w.go hr
 rw[yd3,hN]
 exact mb2 hb.le _ _ _ (Ab9 h1 h2)
theorem vb0.belowML (hb:da1 E k body c) (hN:E.N=rounds+1) (w:vb0 ub7 k keep (Yb2 E k body) alts step xs enc) (s:St):S7 (Pc5 ub7 k keep alts step xs s) (J7 E k (.loop keep c) s):=fun r hr=>by
 obtain⟨t,h1,h2⟩:=w.go hr
 rw[Pc4,hN]
 exact mb2 hb.le _ _ _ (Ab9 h1 h2)
end
end Go.Ev.L
namespace Go.Ev.Ab
open Go Go.Ev
@[reducible] def o (d:Nat) (x:PO):PI:=⟨some d,none,[],x⟩
@[reducible] def s (x:PO):PI:=⟨none,none,[],x⟩
@[reducible] def ci (n:Int):Arg:=.c (.v (.int .i64 n))
@[reducible] def cb (b:Bool):Arg:=.c (.v (.bool b))
@[reducible] def vi (n:Int):b7:=.v (.int .i64 n)
@[reducible] def rep {α:Type} (n:Nat) (x:α):List α:=List.replicate n x
@[reducible] def ki (n:Nat):List CK:=List.replicate n (.int .i64)
@[reducible] def mv (d n:Nat):PI:=o d (.mv (.t n))
@[reducible] def mc (d:Nat) (n:Int):PI:=o d (.mv (ci n))
@[reducible] def mb (d:Nat) (x:Bool):PI:=o d (.mv (cb x))
@[reducible] def fd (d k n:Nat):PI:=o d (.fld k (.t n))
@[reducible] def lf (d k n:Nat):PI:=o d (.load (ki k) k false (.t n))
@[reducible] def la (d k n:Nat):PI:=o d (.load (ki k) k true (.t n))
@[reducible] def ex (d x k:Nat):PI:=o d (.ext (.t x) k)
@[reducible] def gf (n:Nat) (x:PI):PI:=⟨x.dst,some (n,false),x.hide,x.op⟩
@[reducible] def so (l:List PI) (x:PC):PC:=.seq (.ops l) x
@[reducible] def sq (x y:PC):PC:=.seq x y
@[reducible] def ts (l:List Nat):List Arg:=l.map .t
@[reducible] def cl (f:Nat) (l:List Nat):PO:=.call f (ts l)
@[reducible] def sT (k a b:Nat):PI:=s (.store k (.t a) (.t b))
@[reducible] def pa (d c x:Nat):PI:=o d (.pick (.t c) (.t x) (cb false))
@[reducible] def po (d c x:Nat):PI:=o d (.pick (.t c) (cb true) (.t x))
@[reducible] def al (d k:Nat) (n:Int):PI:=o d (.alloc (rep k (vi n)))
@[reducible] def ap (d et es n x y:Nat):PI:=o d (.append et es n (.t x) (.t y))
end Go.Ev.Ab
namespace Go.Ev.L
open Go Go.Ev
def Cps {π σ:Type} (u:∀ {α:Type},(σ→α)→(Nat→α)→α→π→σ→α):Prop :=
 ∀ {α β:Type} (F:α→β) (k:σ→α) (e:Nat→α) (z:α) (p:π) (s:σ),F (u k e z p s)=u (fun x=>F (k x)) (fun t=>F (e t)) (F z) p s
@[reducible] noncomputable def foL {π σ:Type} (en:π→σ→St) (xs:Xs π σ) (p:π) (s:σ):Stp σ→Option (f0×St):=ub8 (fun s'=>some (.normal,en p s')) (fun t=>xOf xs p s t 1) none
structure Lo (π σ:Type) where
 E:Env
 k:Nat
 F:PFn
 at':List Nat
 kp:List Nat
 rt:RT
 al:List (Al2 π σ)
 st:π→σ→Stp σ
 xs:Xs π σ
 en:π→σ→St
namespace Lo
variable {π σ:Type} (L:Lo π σ)
noncomputable def lc:PC:=We4 L.at' L.F.body
noncomputable def ls:St→DT (f0×St):=Pc5 ub7 L.k L.kp L.al L.st L.xs
noncomputable def lsM:St→DT (f0×St):=Pc5 ld1 L.k L.kp L.al L.st L.xs
noncomputable def pr:(St→DT (f0×St))×PC:=(L.ls,.loop L.kp L.lc)
noncomputable def prM:(St→DT (f0×St))×PC:=(L.lsM,.loopM L.kp L.lc)
def Ok:Prop:=∀ s,Y6 L.k L.F.res (L.pr.1 s) (J7 L.E L.k L.pr.2 s)
def OkE:Prop:=∀ s,S7 (L.pr.1 s) (J7 L.E L.k L.pr.2 s)
def OkM:Prop:=∀ s,S7 (L.prM.1 s) (J7 L.E L.k L.prM.2 s)
def Rd (hd:St→DT St) (bd:St→DT (f0×St)) (p:π) (s:σ) (a:St) (b:Stp σ):Prop:=(mb3 hd bd a).run=foL L.en L.xs p s b
def H0:Prop:=∀ p s,L.Rd (ub7 L.k L.kp) (Dd6 L.E L.k L.F.res (Ic0 L.rt L.lc)) p s (L.en p s) (L.st p s)
def H1:Prop:=∀ p s,L.Rd (ub7 L.k L.kp) (Yb2 L.E L.k (vb9 L.rt L.lc)) p s (L.en p s) (L.st p s)
def H2:Prop:=∀ p s,L.Rd (ld1 L.k L.kp) (Yb2 L.E L.k (vb9 L.rt L.lc)) p s (L.en p s) (L.st p s)
def HA:Prop:=Ba2 (fun x=>∀ a H,(⟨Ld7 x.sh a,Ld8 x.bl H⟩:St)=L.en (x.rd a H).1 (x.rd a H).2) L.al
variable {L}
theorem Rd.of {hd : St → DT St} {bd : St → DT (f0 × St)} {p : π} {s : σ} {a : St} (u : ∀ {α : Type}, (σ → α) → (Nat → α) → α → π → σ → α)
  (q:Cps @u) (H:(mb3 hd bd a).run=u (fun x=>foL L.en L.xs p s (.next x)) (fun t=>foL L.en L.xs p s (.exit t)) (foL L.en L.xs p s .fail) p s):L.Rd hd bd p s a (u .next .exit .fail p s) :=
 H.trans (q (foL L.en L.xs p s) Stp.next Stp.exit Stp.fail p s).symm
theorem Rd.sel {hd:St→DT St} {bd:St→DT (f0×St)} {p:π} {s:σ} {a1 a0:St} {b1 b0:Stp σ} (c:Bool) (h1:L.Rd hd bd p s a1 b1) (h0:L.Rd hd bd p s a0 b0):L.Rd hd bd p s (sel c a1 a0) (sel c b1 b0):=by
 cases c with
 | true=>exact h1
 | false=>exact h0
theorem ok (l:List ((St→DT (f0×St))×PC)) (hs:Db0 L.rt L.lc=l) (hl:Ba2 (fun x=>∀ s,Y6 L.k L.F.res (x.1 s) (J7 L.E L.k x.2 s)) l) (hN:L.E.N=rounds+1) (ha:L.HA) (h:L.H0):L.Ok :=
 vb0.belowC (Ed6 _ _ (by rw[hs];exact hl)) hN ⟨ha,h⟩
theorem okE (l:List ((St→DT (f0×St))×PC)) (hs:Db0 L.rt L.lc=l) (hl:Ba2 (fun x=>∀ s,S7 (x.1 s) (J7 L.E L.k x.2 s)) l) (hN:L.E.N=rounds+1) (ha:L.HA) (h:L.H1):L.OkE :=
 vb0.belowML (Xc8 _ _ (by rw[hs];exact hl)) hN ⟨ha,h⟩
theorem okM (l:List ((St→DT (f0×St))×PC)) (hs:Db0 L.rt L.lc=l) (hl:Ba2 (fun x=>∀ s,S7 (x.1 s) (J7 L.E L.k x.2 s)) l) (hN:L.E.N=rounds+1) (ha:L.HA) (h:L.H2):L.OkM :=
 vb0.belowM (Xc8 _ _ (by rw[hs];exact hl)) hN ⟨ha,h⟩
end Lo
theorem Pa9 {E : Env} {F : PFn} {args : List b7} {blks : List b9} {o : Option (b7 × List b9)} (rt : RT) (l : List ((St → DT (f0 × St)) × PC)) (hs : Db0 rt F.body = l)
  (hl:Ba2 (fun x=>∀ s,Y6 (len blks) F.res (x.1 s) (J7 E (len blks) x.2 s)) l) (h:(Me9 E F (Ic0 rt F.body) args blks).run=o) (r:b7×List b9) (hr:o=some r):(n4 E F args blks).run=some r :=
 wd7 (Ed6 rt _ (by rw[hs];exact hl)) r (h.trans hr)
theorem ld3 {E : Env} {F : PFn} {args : List b7} {blks : List b9} {o : Option (b7 × List b9)} (rt : RT) (l : List ((St → DT (f0 × St)) × PC)) (hs : Db0 rt F.body = l)
  (hl:Ba2 (fun x=>∀ s,S7 (x.1 s) (J7 E (len blks) x.2 s)) l) (h:(ze8 E F (vb9 rt F.body) args blks).run=o) (r:b7×List b9) (hr:o=some r):(mb8 E F args blks).run=some r :=
 ld0 (Xc8 rt _ (by rw[hs];exact hl)) r (h.trans hr)
theorem A0 {A o:Option (b7×List b9)} (h:A=o) (r:b7×List b9) (hr:o=some r):A=some r:=h.trans hr
end Go.Ev.L
namespace Go.Ev.Ce
structure V3 where
 x:Int
 y:Int
 z:Int
structure Pln where
 n:V3
 b:Int
structure Pt where
 px:Int
 py:Int
 pz:Int
 pw:Int
def d8 (a b:V3):V3:=⟨a.y*b.z - a.z*b.y,a.z*b.x - a.x*b.z,a.x*b.y - a.y*b.x⟩
def dot (a b:V3):Int:=a.x*b.x+a.y*b.y+a.z*b.z
def mw (p q r:Pln):Int:=dot p.n (d8 q.n r.n)
end Go.Ev.Ce
namespace Go.Ev.Ce
open Go Go.Ev Go.Ev.L Go.Proofs
@[reducible] noncomputable def prog:Program:=Tryz.prog
noncomputable def G:Nat→List Value:=fun _=>[]
noncomputable def En (l:List (Nat×Sum)):Env:={ P:=prog,G,fns:=fun _=>none,call:=Ee0 l,own:=fun f j=>Bool.and (Ka4 f [150,121,154,91,139,144,146,148]) (Nat.beq j 0),N:=18446744073709551616 }
@[reducible] def u:b7:=.v (.tuple #[])
theorem Re6 {l:List (Nat×Sum)} (h:j9 prog G l):∀ f,i4 (En l).P (En l).G f ((En l).call f):=Dd5 h
theorem bd {l:List (Nat×Sum)} {f:FuncId} {R:Env→Sum} (b:C0 prog f R) (h:j9 prog G l):i4 prog G f (R (En l)):=b rfl (Re6 h)
noncomputable def tV:Ty V3 where
 es:=3
 row x:=[i x.x,i x.y,i x.z]
 rd r:=⟨toI (hdA r),toI (hdA (tlA r)),toI (hdA (tlA (tlA r)))⟩
 ok r:=ya5 3 r
 cks:=List.replicate 3 (.int .i64)
 d:=⟨0,0,0⟩
 h0 _:=rfl
 h1 _:=rfl
 h2 _:=rfl
 h3 _ h:=.of (Sa6 h)
 h4 _:=rfl
 h5 _:=rfl
noncomputable def r1V:R1 V3:=r1A tV 3 fun _ h=>h
noncomputable def tP:Ty Pln where
 es:=4
 row x:=[i x.n.x,i x.n.y,i x.n.z,i x.b]
 rd r:=⟨⟨toI (hdA r),toI (hdA (tlA r)),toI (hdA (tlA (tlA r)))⟩,toI (hdA (tlA (tlA (tlA r))))⟩
 ok r:=ya5 4 r
 cks:=List.replicate 4 (.int .i64)
 d:=⟨⟨0,0,0⟩,0⟩
 h0 _:=rfl
 h1 _:=rfl
 h2 _:=rfl
 h3 _ h:=.of (Sa6 h)
 h4 _:=rfl
 h5 _:=rfl
noncomputable def r1P:R1 Pln:=r1A tP 4 fun _ h=>h
structure Tp where
 p:Pln
 q:Pln
 r:Pln
structure Q2 where
 a:V3
 b:V3
end Go.Ev.Ce
section
namespace Go.Ev.Ce
open Go Go.Ev Go.Ev.L Go.Proofs
set_option maxRecDepth 100000
noncomputable def yd4:List (Nat×Sum):=[]
theorem ld4:j9 prog G yd4:=trivial
noncomputable def Bb5 (x:V3) (y:V3):V3:=(⟨(W (x.x+y.x)),(W (x.y+y.y)),(W (x.z+y.z))⟩:V3)
noncomputable def Qc5:Sum:=na9 (S9 tV) (S9 tV) (fun x y=>.ret ((one r1V).enc (Bb5 x y),[]))
theorem yd5:i4 prog G 80 Qc5:=wa2 (bd b80 ld4) fun x y=>A0 (by kernel_rfl)
noncomputable def yd6:List (Nat×Sum):=[]
theorem ld5:j9 prog G yd6:=trivial
noncomputable def Ga1 (x:V3) (y:V3):Int:=(W ((W ((W (x.x*y.x))+(W (x.y*y.y))))+(W (x.z*y.z))))
noncomputable def Yb3:Sum:=na9 (S9 tV) (S9 tV) (fun x y=>.ret ((one r1I).enc (Ga1 x y),[]))
theorem xc5:i4 prog G 84 Yb3:=wa2 (bd b84 ld5) fun x y=>A0 (by kernel_rfl)
noncomputable def Xc9:List (Nat×Sum):=[]
theorem Ic2:j9 prog G Xc9:=trivial
noncomputable def Ka7 (x:V3) (y:V3):V3:=(⟨(W ((W (x.y*y.z)) - (W (x.z*y.y)))),(W ((W (x.z*y.x)) - (W (x.x*y.z)))),(W ((W (x.x*y.y)) - (W (x.y*y.x))))⟩:V3)
noncomputable def gc7:Sum:=na9 (S9 tV) (S9 tV) (fun x y=>.ret ((one r1V).enc (Ka7 x y),[]))
theorem Yc0:i4 prog G 164 gc7:=wa2 (bd bf0 Ic2) fun x y=>A0 (by kernel_rfl)
structure Zd5 where
structure Zd6 where
 is0:Int
 is1:Int
structure Ge3 where
 n8:List Pln
 c9:Int
 c7:Int
 d7:Int
 j6:Int
structure Ge4 where
 is5:Int
structure ke6 where
 Uc5:List Pt
 c9:Int
 c7:Int
 d7:Int
 j6:Int
structure ke7 where
 is5:Int
structure Rd4 where
 n8:List Pln
 is4:Int
 is5:Int
structure Rd5 where
 ph:Nat
 is6:Int
 ns3:Nat
 eh0:List (List b7)
structure Rd6 where
 is4:Int
structure Rd7 where
 ph:Nat
 n8:List Pln
 is5:Int
 ns3:Nat
 eh0:List (List b7)
structure Rd8 where
structure Rd9 where
 ph:Nat
 n8:List Pln
 is4:Int
 ns3:Nat
 eh0:List (List b7)
noncomputable def bb5:List (Nat×Sum):=[]
theorem Jb7:j9 prog G bb5:=trivial
@[reducible] noncomputable def sa3:Sum:=n4 (En bb5) Ae4
theorem Ba4:i4 prog G 191 sa3:=bd cf0 Jb7
noncomputable def jc5:List (Nat×Sum):=[]
theorem Yb4:j9 prog G jc5:=trivial
noncomputable def pa4 (x:Int):Option (b7×List b9):=(sl (decide (x < 0)) (some ((i (W (0 - x))),[])) (some ((i x),[])))
noncomputable def ja2 (x:Int):Int:=U2 (one r1I) (pa4 x)
noncomputable def ja3 (x:Int):Bool:=okO (one r1I) (pa4 x)
noncomputable def wb0:Sum:=Y1 cI (fun x=>.guard (ja3 x) (.ret ((one r1I).enc (ja2 x),[])))
theorem jc6:i4 prog G 184 wb0:=Ua2 (bd bf6 Yb4) (one r1I) (o:=pa4) fun x=>A0 (by kernel_rfl)
noncomputable def gc8:List (Nat×Sum):=[(184,wb0),(191,sa3)]
theorem Yc1:j9 prog G gc8:=⟨jc6,Ba4,trivial⟩
structure fa0 where
 is6:Int
 c9:Int
 c7:Int
 d7:Int
 ya0:Int
 ya1:Int
 ya2:Int
structure M8 where
 is5:Int
 is7:Int
noncomputable def Ic3 (p:fa0) (s:M8):St:=⟨(.unk::((.ptr 0 0 0 0)::((.ptr 1 0 0 0)::(.unk::((.ptr 2 0 0 0)::((i s.is5)::((i p.is6)::((i s.is7)::(ra 38 []))))))))),[⟨0,3,[[(i p.c9),(i p.c7),(i p.d7)]],true,false,0⟩,⟨0,3,[[(i 0),(i 0),(i 0)]],true,false,0⟩,⟨0,3,[[(i p.ya0),(i p.ya1),(i p.ya2)]],true,false,0⟩]⟩
noncomputable def pa5 {α:Type} (k:M8→α) (e:Nat→α) (z:α) (p:fa0) (s:M8):α:=(sl (decide (s.is7 > 0)) (sl (s.is7==0) z (k ⟨s.is7,(Int.tmod s.is5 s.is7)⟩)) (e 1))
noncomputable def Z9 (p:fa0) (s:M8):Stp M8:=pa5 .next .exit .fail p s
noncomputable def nb1:Lo fa0 M8:=⟨En gc8,0,Ae2,[1,1,1,0,1,4,4,1,0,4,1,1,4,4],[1,2,4,5,6,7],.p,[⟨((.s (.o .unk))::((.s (.o (.ptr 0 0 0 0)))::((.s (.o (.ptr 1 0 0 0)))::((.s (.o .unk))::((.s (.o (.ptr 2 0 0 0)))::((.s (.o (.int .i64)))::((.s (.o (.int .i64)))::((.s (.o (.int .i64)))::(ru2 38 []))))))))),[⟨0,3,true,(some [[(.o (.int .i64)),(.o (.int .i64)),(.o (.int .i64))]])⟩,⟨0,3,true,(some [[(.o (.lit .i64 0)),(.o (.lit .i64 0)),(.o (.lit .i64 0))]])⟩,⟨0,3,true,(some [[(.o (.int .i64)),(.o (.int .i64)),(.o (.int .i64))]])⟩],fun a H=>(⟨(toI (slT a 6)),(toI (slT (rwT (elT H 0) 0) 0)),(toI (slT (rwT (elT H 0) 0) 1)),(toI (slT (rwT (elT H 0) 0) 2)),(toI (slT (rwT (elT H 2) 0) 0)),(toI (slT (rwT (elT H 2) 0) 1)),(toI (slT (rwT (elT H 2) 0) 2))⟩,⟨(toI (slT a 5)),(toI (slT a 7))⟩)⟩],Z9,[(some 2,fun p s=>⟨(.unk::((.ptr 0 0 0 0)::((.ptr 1 0 0 0)::(.unk::((.ptr 2 0 0 0)::((i s.is5)::((i p.is6)::((i s.is7)::(ra 15 ((i s.is7)::((b (decide (s.is7 > 0)))::(ra 21 [])))))))))))),[⟨0,3,[[(i p.c9),(i p.c7),(i p.d7)]],true,false,0⟩,⟨0,3,[[(i 0),(i 0),(i 0)]],true,false,0⟩,⟨0,3,[[(i p.ya0),(i p.ya1),(i p.ya2)]],true,false,0⟩]⟩)],Ic3⟩
theorem Ic4:nb1.Ok:=Lo.ok [] (by kernel_rfl) .nil rfl (.cons (fun a H=>by kernel_rfl) .nil) fun p s=>(.of @pa5 (fun F _ _ _ _ _=>by unfold pa5;(repeat' apply o9 (f:=F))<;>rfl) (by kernel_rfl))
noncomputable def Ua9 (x:V3):Option (b7×List b9):=let t1:=(ja2 x.x);let t2:=(lp (Z9 (⟨0,x.x,x.y,x.z,x.x,x.y,x.z⟩:fa0)) (⟨0,t1⟩:M8));let t3:=(ja2 x.y);let t4:=(lp (Z9 (⟨1,x.x,x.y,x.z,x.x,x.y,x.z⟩:fa0)) (⟨t2.2.is5,t3⟩:M8));let t5:=(ja2 x.z);let t6:=(lp (Z9 (⟨2,x.x,x.y,x.z,x.x,x.y,x.z⟩:fa0)) (⟨t4.2.is5,t5⟩:M8));(sl (x.x==(-9223372036854775808)) (some ((.tup [(.agg [(i 0),(i 0),(i 0)]),(i 0)]),[])) (sl (ja3 x.x) (sl (Nat.beq t2.1 1) (sl (x.y==(-9223372036854775808)) (some ((.tup [(.agg [(i 0),(i 0),(i 0)]),(i 0)]),[])) (sl (ja3 x.y) (sl (Nat.beq t4.1 1) (sl (x.z==(-9223372036854775808)) (some ((.tup [(.agg [(i 0),(i 0),(i 0)]),(i 0)]),[])) (sl (ja3 x.z) (sl (Nat.beq t6.1 1) (sl (t6.2.is5==0) (some ((.tup [(.agg [(i 0),(i 0),(i 0)]),(i 0)]),[])) (sl (t6.2.is5==0) none (sl (t6.2.is5==0) none (sl (t6.2.is5==0) none (some ((.tup [(.agg [(i (W (Int.tdiv x.x t6.2.is5))),(i (W (Int.tdiv x.y t6.2.is5))),(i (W (Int.tdiv x.z t6.2.is5)))]),(i t6.2.is5)]),[])))))) none) none)) none) none)) none) none))
noncomputable def ya7 (x:V3):V3×Int:=U2 (two r1V r1I) (Ua9 x)
noncomputable def Va0 (x:V3):Bool:=okO (two r1V r1I) (Ua9 x)
noncomputable def Jb8:Sum:=Y1 (S9 tV) (fun x=>.guard (Va0 x) (.ret ((two r1V r1I).enc (ya7 x),[])))
theorem gc9:i4 prog G 163 Jb8:=Ua2 (bd af9 Yc1) (two r1V r1I) (o:=Ua9) fun x=>Pa9 (.s .p (.s .p (.s .p (.s (.s .p (.b (.l (.s .p (.s (.b (.s .p (.s .p (.b (.u nb1.ls))))) .p))))) .p)))) [nb1.pr] (by kernel_rfl) (.cons Ic4 .nil) (by kernel_rfl)
noncomputable def Yc2:List (Nat×Sum):=[(163,Jb8),(191,sa3)]
theorem Ic5:j9 prog G Yc2:=⟨gc9,Ba4,trivial⟩
noncomputable def Ka8 (x:Pln):Option (b7×List b9):=let t1:=(ya7 x.n);(sl (decide (x.n.x < (-4608))) (some ((b false),[])) (sl (decide (x.n.x > 4608)) (some ((b false),[])) (sl (decide (x.n.y < (-4608))) (some ((b false),[])) (sl (decide (x.n.y > 4608)) (some ((b false),[])) (sl (decide (x.n.z < (-4608))) (some ((b false),[])) (sl (decide (x.n.z > 4608)) (some ((b false),[])) (sl (Va0 x.n) (sl (t1.2==1) (sl (decide (x.b≥(-2097152))) (some ((b (decide (x.b≤2097152))),[])) (some ((b false),[]))) (some ((b false),[]))) none)))))))
noncomputable def bb6 (x:Pln):Bool:=U2 (one r1B) (Ka8 x)
noncomputable def bb7 (x:Pln):Bool:=okO (one r1B) (Ka8 x)
noncomputable def hc3:Sum:=Y1 (S9 tP) (fun x=>.guard (bb7 x) (.ret ((one r1B).enc (bb6 x),[])))
theorem Yc3:i4 prog G 156 hc3:=Ua2 (bd af7 Ic5) (one r1B) (o:=Ka8) fun x=>A0 (by kernel_rfl)
structure ke8 where
 n8:List Pln
structure ke9 where
 is3:Int
structure qe6 where
 n8:List Pln
 ke5:List Pt
 is4:Int
structure qe7 where
 bs5:Bool
 is6:Int
structure qe8 where
structure qe9 where
 n8:List Pln
 ke5:List Pt
 is4:Int
noncomputable def yd7:List (Nat×Sum):=[]
theorem ld6:j9 prog G yd7:=trivial
noncomputable def hb7 (x:Int) (y:Int):Option (b7×List b9):=(sl (decide (y < 1)) (some ((i 0),[])) (sl (y==0) none (sl (y==0) none (some ((i (Int.tmod (W ((Int.tmod x y)+y)) y)),[])))))
noncomputable def Bb6 (x:Int) (y:Int):Int:=U2 (one r1I) (hb7 x y)
noncomputable def Bb7 (x:Int) (y:Int):Bool:=okO (one r1I) (hb7 x y)
noncomputable def Qc6:Sum:=na9 cI cI (fun x y=>.guard (Bb7 x y) (.ret ((one r1I).enc (Bb6 x y),[])))
theorem yd8:i4 prog G 27 Qc6:=mb5 (bd b27 ld6) (one r1I) (o:=hb7) fun x y=>A0 (by kernel_rfl)
end Go.Ev.Ce
end
section
namespace Go.Ev.Ce
open Go Go.Ev Go.Ev.L Go.Proofs
set_option maxRecDepth 100000
noncomputable def Yc4:List (Nat×Sum):=[]
theorem Ic6:j9 prog G Yc4:=trivial
noncomputable def j7 (x:V3) (y:V3):Int:=(W ((W ((W (x.x*y.x))+(W (x.y*y.y))))+(W (x.z*y.z))))
noncomputable def Ka9:Sum:=na9 (S9 tV) (S9 tV) (fun x y=>.ret ((one r1I).enc (j7 x y),[]))
theorem Qa0:i4 prog G 83 Ka9:=wa2 (bd b83 Ic6) fun x y=>A0 (by kernel_rfl)
noncomputable def Yc5:List (Nat×Sum):=[]
theorem Ic7:j9 prog G Yc5:=trivial
noncomputable def f7 (x:V3) (y:V3):V3:=(⟨(W (x.x+y.x)),(W (x.y+y.y)),(W (x.z+y.z))⟩:V3)
noncomputable def wb1:Sum:=na9 (S9 tV) (S9 tV) (fun x y=>.ret ((one r1V).enc (f7 x y),[]))
theorem Pb9:i4 prog G 34 wb1:=wa2 (bd b34 Ic7) fun x y=>A0 (by kernel_rfl)
noncomputable def xc6:List (Nat×Sum):=[]
theorem jc7:j9 prog G xc6:=trivial
noncomputable def aa0 (x:V3) (y:V3):V3:=(⟨(W ((W (x.y*y.z)) - (W (x.z*y.y)))),(W ((W (x.z*y.x)) - (W (x.x*y.z)))),(W ((W (x.x*y.y)) - (W (x.y*y.x))))⟩:V3)
noncomputable def db7:Sum:=na9 (S9 tV) (S9 tV) (fun x y=>.ret ((one r1V).enc (aa0 x y),[]))
theorem wb2:i4 prog G 142 db7:=wa2 (bd af2 jc7) fun x y=>A0 (by kernel_rfl)
structure re0 where
 Fa0:List Int
 is7:Int
 is8:Int
structure re1 where
 is3:Int
 is5:Int
structure re2 where
 is7:Int
structure re3 where
 is3:Int
 Fa0:List Int
 is8:Int
structure Sd0 where
 ca7:Int
 ca8:Int
 ca9:Int
 Hb7:Int
 c9:Int
 c7:Int
 d7:Int
 j6:Int
structure Sd1 where
 bs0:Bool
structure Fc8 where
 n8:List Pln
 c9:Int
 c7:Int
 d7:Int
 j6:Int
structure qc3 where
 n8:List Pln
 is7:Int
 c9:Int
 c7:Int
 d7:Int
 j6:Int
structure qc4 where
 is8:Int
structure Fc9 where
 alt:Nat
 is0:Int
structure jc8 where
 n8:List Pln
 c9:Int
 c7:Int
 d7:Int
 j6:Int
structure jc9 where
 alt:Nat
 bs0:Bool
structure hb8 where
 is3:Int
 Ce4:List Pln
 k8:Int
 rd9:Int
 Ue4:Nat
 Ue5:Nat→List b7
 Le6:Int
 df9:Int
 ef0:Nat
 ef1:Nat→List b7
 ef2:Int
 r4:List Pln
 C9:Int
 D0:Int
 D1:Int
 Vb9:Int
 ya0:Int
 ya1:Int
 ya2:Int
 ye9:Int
 Qd5:List Pln
structure Qc7 where
 ph:Nat
 ff5:Int
 Ve0:Nat
 eh6:List (List b7)
 eh7:List (List b7)
structure hb9 where
 is3:Int
 k8:Int
 rd9:Int
 Ue4:Nat
 Ue5:Nat→List b7
 Le6:Int
 C9:Int
 D0:Int
 D1:Int
 Vb9:Int
structure Qc8 where
 ph:Nat
 Ce4:List Pln
 df9:Int
 r4:List Pln
 Me1:List Pln
 w6:Nat
 eh5:List (List b7)
 eh6:List (List b7)
structure Qc9 where
 k8:Int
structure Rc0 where
 ph:Nat
 Ce4:List Pln
 rd9:Int
 r4:List Pln
 r5:List Pln
 ze0:Nat
 eh4:List (List b7)
 eh5:List (List b7)
end Go.Ev.Ce
end
section
namespace Go.Ev.Ce
open Go Go.Ev Go.Ev.L Go.Proofs
set_option maxRecDepth 100000
noncomputable def qb0:List (Nat×Sum):=[]
theorem Yb5:j9 prog G qb0:=trivial
structure ja4 where
 is0:Int
 sd0:List Int
 is8:Int
structure H8 where
 is9:Int
noncomputable def Qb0 (p:ja4) (s:H8):St:=⟨((i p.is0)::(ra 6 ((eL tI p.sd0)::((i p.is8)::((i s.is9)::(ra 13 [])))))),[]⟩
noncomputable def ba6 {α:Type} (k:H8→α) (e:Nat→α) (z:α) (p:ja4) (s:H8):α:=(sl (decide (s.is9 < p.is8)) (sl (inB s.is9 (List.length p.sd0)) (sl (decide ((gL tI p.sd0 s.is9.toNat) < (W (0 - p.is0)))) (e 1) (sl (decide ((gL tI p.sd0 s.is9.toNat) > p.is0)) (e 1) (k ⟨(W (s.is9+1))⟩))) z) (e 2))
noncomputable def fa1 (p:ja4) (s:H8):Stp H8:=ba6 .next .exit .fail p s
noncomputable def Ga2:Lo ja4 H8:=⟨En qb0,0,Ae1,[1,0,1,4,4],[0,7,8,9],.p,[⟨((.s (.o (.int .i64)))::(ru2 6 ((.s (.c 1 (nL tI)))::((.s (.o (.int .i64)))::((.s (.o (.int .i64)))::(ru2 13 [])))))),[],fun a H=>(⟨(toI (slT a 0)),(rL tI (slT a 7)),(toI (slT a 8))⟩,⟨(toI (slT a 9))⟩)⟩],fa1,[(none,fun p s=>⟨[(b false)],[]⟩),(some 0,fun p s=>⟨((i p.is0)::(ra 6 ((eL tI p.sd0)::((i p.is8)::((i s.is9)::((b (decide (s.is9 < p.is8)))::(ra 12 []))))))),[]⟩)],Qb0⟩
theorem Qb1:Ga2.Ok:=Lo.ok [] (by kernel_rfl) .nil rfl (.cons (fun a H=>by kernel_rfl) .nil) fun p s=>(.of @ba6 (fun F _ _ _ _ _=>by unfold ba6;(repeat' apply o9 (f:=F))<;>rfl) (by kernel_rfl))
noncomputable def pa6 (x:Int) (y:List Int):Option (b7×List b9):=let t1:=(lp (fa1 (⟨x,(rt tI y),(↑(List.length y):Int)⟩:ja4)) (⟨0⟩:H8));(sl ((cnE tI y)&&true) (sl (Nat.beq t1.1 1) (some ((b false),[])) (sl (Nat.beq t1.1 2) (some ((b true),[])) none)) none)
noncomputable def K2 (x:Int) (y:List Int):Bool:=U2 (one r1B) (pa6 x y)
noncomputable def K3 (x:Int) (y:List Int):Bool:=okO (one r1B) (pa6 x y)
noncomputable def Ba5:Sum:=na9 cI (ta7 tI) (fun x y=>.guard (K3 x y) (.ret ((one r1B).enc (K2 x y),[])))
theorem Ma4:i4 prog G 138 Ba5:=mb5 (bd Ze9 Yb5) (one r1B) (o:=pa6) fun x y=>Pa9 (.s .p (.s (.s .p (.b (.u Ga2.ls))) .p)) [Ga2.pr] (by kernel_rfl) (.cons Qb1 .nil) (by kernel_rfl)
noncomputable def Qb2:List (Nat×Sum):=[]
theorem Jb9:j9 prog G Qb2:=trivial
noncomputable def R3 (x:Int):Int:=(if (W (0 - x)) > x then (W (0 - x)) else x)
noncomputable def Ga3:Sum:=Y1 cI (fun x=>.ret ((one r1I).enc (R3 x),[]))
theorem bb8:i4 prog G 183 Ga3:=Bb0 (bd bf5 Jb9) fun x=>A0 (by kernel_rfl)
noncomputable def Ga4:List (Nat×Sum):=[(183,Ga3)]
theorem Qb3:j9 prog G Ga4:=⟨bb8,trivial⟩
structure U7 where
 Fa0:List Int
 is7:Int
 is8:Int
structure J5 where
 is3:Int
 is5:Int
noncomputable def Kb0 (p:U7) (s:J5):St:=⟨(ra 3 ((i s.is3)::(.unk::((i s.is5)::((eL tI p.Fa0)::((i p.is7)::((i p.is8)::(ra 15 [])))))))),[]⟩
noncomputable def Y2 {α:Type} (k:J5→α) (e:Nat→α) (z:α) (p:U7) (s:J5):α:=(sl (decide (s.is5 > 0)) (sl (s.is5==0) z (k ⟨s.is5,(Int.tmod s.is3 s.is5)⟩)) (e 1))
noncomputable def R4 (p:U7) (s:J5):Stp J5:=Y2 .next .exit .fail p s
noncomputable def Ba6:Lo U7 J5:=⟨En Ga4,0,Zd4,[1,1,0,1,4,4,1,1,0,4,1,1,1,4,4],[3,5,6,7,8],.p,[⟨(ru2 3 ((.s (.o (.int .i64)))::((.s (.o .unk))::((.s (.o (.int .i64)))::((.s (.c 1 (nL tI)))::((.s (.o (.int .i64)))::((.s (.o (.int .i64)))::(ru2 15 [])))))))),[],fun a H=>(⟨(rL tI (slT a 6)),(toI (slT a 7)),(toI (slT a 8))⟩,⟨(toI (slT a 3)),(toI (slT a 5))⟩)⟩],R4,[(some 2,fun p s=>⟨(ra 3 ((i s.is3)::(.unk::((i s.is5)::((eL tI p.Fa0)::((i p.is7)::((i p.is8)::(ra 7 ((i s.is5)::((b (decide (s.is5 > 0)))::(ra 6 []))))))))))),[]⟩)],Kb0⟩
theorem Kb1:Ba6.Ok:=Lo.ok [] (by kernel_rfl) .nil rfl (.cons (fun a H=>by kernel_rfl) .nil) fun p s=>(.of @Y2 (fun F _ _ _ _ _=>by unfold Y2;(repeat' apply o9 (f:=F))<;>rfl) (by kernel_rfl))
structure fa2 where
 is7:Int
structure D7 where
 is3:Int
 Fa0:List Int
 is8:Int
noncomputable def Kb2 (p:fa2) (s:D7):St:=⟨(ra 3 ((i s.is3)::(.unk::(.unk::((eL tI s.Fa0)::((i p.is7)::((i s.is8)::(ra 15 [])))))))),[]⟩
noncomputable def Y3 {α:Type} (k:D7→α) (e:Nat→α) (z:α) (p:fa2) (s:D7):α:=let t1:=(R3 (gL tI s.Fa0 s.is8.toNat));let t2:=(lp (R4 (⟨(rt tI s.Fa0),p.is7,s.is8⟩:U7)) (⟨s.is3,t1⟩:J5));(sl (decide (s.is8 < p.is7)) (sl (inB s.is8 (List.length s.Fa0)) (sl ((gL tI s.Fa0 s.is8.toNat)==(-9223372036854775808)) (e 1) (sl ((cnE tI s.Fa0)&&true) (sl (Nat.beq t2.1 1) (k ⟨t2.2.is3,(rt tI s.Fa0),(W (s.is8+1))⟩) z) z)) z) (e 2))
noncomputable def ba7 (p:fa2) (s:D7):Stp D7:=Y3 .next .exit .fail p s
noncomputable def Ba7:Lo fa2 D7:=⟨En Ga4,0,Zd4,[1,1,0,1,4,4],[3,6,7,8],(.s .p (.s .p (.s (.b (.s .p (.s .p (.s .p (.b (.u Ba6.ls)))))) .p))),[⟨(ru2 3 ((.s (.o (.int .i64)))::((.s (.o .unk))::((.s (.o .unk))::((.s (.c 1 (nL tI)))::((.s (.o (.int .i64)))::((.s (.o (.int .i64)))::(ru2 15 [])))))))),[],fun a H=>(⟨(toI (slT a 7))⟩,⟨(toI (slT a 3)),(rL tI (slT a 6)),(toI (slT a 8))⟩)⟩],ba7,[(none,fun p s=>⟨[(i 0)],[]⟩),(some 0,fun p s=>⟨(ra 3 ((i s.is3)::(.unk::(.unk::((eL tI s.Fa0)::((i p.is7)::((i s.is8)::((b (decide (s.is8 < p.is7)))::(ra 14 []))))))))),[]⟩)],Kb2⟩
theorem Kb3:Ba7.Ok:=Lo.ok [Ba6.pr] (by kernel_rfl) (.cons Kb1 .nil) rfl (.cons (fun a H=>by kernel_rfl) .nil) fun p s=>(.of @Y3 (fun F _ _ _ _ _=>by unfold Y3;(repeat' apply o9 (f:=F))<;>rfl) (by kernel_rfl))
noncomputable def la1 (x:List Int):Option (b7×List b9):=let t1:=(lp (ba7 (⟨(↑(List.length x):Int)⟩:fa2)) (⟨0,(rt tI x),0⟩:D7));(sl ((cnE tI x)&&true) (sl (Nat.beq t1.1 1) (some ((i 0),[])) (sl (Nat.beq t1.1 2) (some ((i t1.2.is3),[])) none)) none)
noncomputable def X2 (x:List Int):Int:=U2 (one r1I) (la1 x)
noncomputable def X3 (x:List Int):Bool:=okO (one r1I) (la1 x)
noncomputable def Ma5:Sum:=Y1 (ta7 tI) (fun x=>.guard (X3 x) (.ret ((one r1I).enc (X2 x),[])))
theorem ib0:i4 prog G 186 Ma5:=Ua2 (bd bf7 Qb3) (one r1I) (o:=la1) fun x=>Pa9 (.s .p (.s .p (.s (.s .p (.b (.u Ba7.ls))) .p))) [Ba7.pr] (by kernel_rfl) (.cons Kb3 .nil) (by kernel_rfl)
noncomputable def xc7:List (Nat×Sum):=[(138,Ba5),(186,Ma5)]
theorem kc0:j9 prog G xc7:=⟨Ma4,ib0,trivial⟩
noncomputable def ua3 (x:Pln):Option (b7×List b9):=let t1:=(K2 4608 [x.n.x,x.n.y,x.n.z]);let t2:=(X2 [x.n.x,x.n.y,x.n.z]);let t3:=(K2 2097152 [x.b]);(sl (K3 4608 [x.n.x,x.n.y,x.n.z]) (sl t1 (sl (X3 [x.n.x,x.n.y,x.n.z]) (sl (t2==1) (sl (K3 2097152 [x.b]) (some ((b t3),[])) none) (some ((b false),[]))) none) (some ((b false),[]))) none)
noncomputable def ua4 (x:Pln):Bool:=U2 (one r1B) (ua3 x)
noncomputable def ua5 (x:Pln):Bool:=okO (one r1B) (ua3 x)
noncomputable def db8:Sum:=Y1 (S9 tP) (fun x=>.guard (ua5 x) (.ret ((one r1B).enc (ua4 x),[])))
theorem wb3:i4 prog G 140 db8:=Ua2 (bd af0 kc0) (one r1B) (o:=ua3) fun x=>A0 (by kernel_rfl)
structure Gc0 where
 n8:List Pln
structure qc5 where
 n8:List Pln
 is7:Int
structure qc6 where
 is8:Int
structure Gc1 where
 alt:Nat
 is0:Int
structure kc1 where
 n8:List Pln
structure kc2 where
 alt:Nat
 bs0:Bool
end Go.Ev.Ce
end
namespace Go.Proofs
open Go.Shelf
set_option maxRecDepth 100000 in
def Ce.growP_ren:Go.Shelf.Ren:=⟨fun | 4=>193 | n=>n,fun | 22=>24 | 25=>73 | 3=>3 | 4=>4 | 9=>9 | 20=>20 | 0=>0 | n=>n,fun | n=>n⟩
end Go.Proofs
namespace Go.Ev.Ce
open Go Go.Ev Go.Proofs
noncomputable def cf4:List b7:=[i 0,i 0,i 0,i 0]
theorem t25:Ce.growP_ren.t 25=73:=by kernel_rfl
theorem f4:Ce.growP_ren.f 4=193:=by kernel_rfl
end Go.Ev.Ce
section
namespace Go.Ev.Ce
open Go Go.Ev Go.Ev.L Go.Proofs
set_option maxRecDepth 100000
structure Rc1 where
 Cd2:List (List Pln)
 ef3:List (List Pln)
 k8:Int
structure Rc2 where
 is3:Int
 rd9:Int
structure Rc3 where
 Ve1:List (List Pln)
 ff6:Int
structure Rc4 where
 ph:Nat
 ff7:Int
 ns6:Nat
 eh0:List (List b7)
structure dd9 where
 alt:Nat
 ns0:Nat
 eh0:List (List b7)
structure Gc2 where
 Cd2:List (List Pln)
structure qc7 where
 Cd2:List (List Pln)
 is7:Int
structure qc8 where
 is8:Int
structure Gc3 where
 alt:Nat
 is0:Int
structure kc3 where
 Cd2:List (List Pln)
structure kc4 where
 alt:Nat
 bs0:Bool
structure Yc6 where
 ca7:Int
 ca8:Int
 ca9:Int
 Hb7:Int
 c9:Int
 c7:Int
 d7:Int
 j6:Int
structure Yc7 where
 bs0:Bool
structure Ic8 where
 Uc5:List Pt
 c9:Int
 c7:Int
 d7:Int
 j6:Int
structure xc8 where
 Uc5:List Pt
 is7:Int
 c9:Int
 c7:Int
 d7:Int
 j6:Int
structure xc9 where
 is8:Int
structure Ic9 where
 alt:Nat
 is0:Int
structure qc9 where
 Uc5:List Pt
 c9:Int
 c7:Int
 d7:Int
 j6:Int
structure rc0 where
 alt:Nat
 bs0:Bool
structure ld7 where
 ca7:Int
 ca8:Int
 ca9:Int
 Hb7:Int
 ba2:List Pt
structure ld8 where
 alt:Nat
 bs0:Bool
structure Gc4 where
 n8:List Pln
 ba2:List Pt
structure rc1 where
 n8:List Pln
 is7:Int
structure rc2 where
 is8:Int
 ba2:List Pt
structure Gc5 where
 alt:Nat
 is0:Int
 ba2:List Pt
structure kc5 where
 n8:List Pln
 ba2:List Pt
structure kc6 where
 alt:Nat
 bs0:Bool
 ba2:List Pt
structure Zd7 where
 ef4:List Pt
 fc7:Int
structure Zd8 where
 Le6:Int
 ya0:Int
 ya1:Int
 ya2:Int
 Ve2:Int
 Ve3:Int
 Ve4:Int
end Go.Ev.Ce
end
section
namespace Go.Ev.Ce
open Go Go.Ev Go.Ev.L Go.Proofs
set_option maxRecDepth 100000
structure le0 where
 ca7:Int
 ca8:Int
 ca9:Int
 Hb7:Int
 ba2:List Pt
structure Sd2 where
 ef8:List Pt
 is8:Int
 ba2:List Pt
 C9:Int
 D0:Int
 D1:Int
 Vb9:Int
structure Sd3 where
 is4:Int
 is9:Int
structure le1 where
 alt:Nat
 bs0:Bool
 ba2:List Pt
structure Gc6 where
 ns0:Nat
 eh0:List (List b7)
 kb3:List Pt
structure rc3 where
 ns0:Nat
 is7:Int
 eh0:List (List b7)
structure rc4 where
 is8:Int
 kb3:List Pt
structure Gc7 where
 alt:Nat
 is0:Int
 kb3:List Pt
structure Gc8 where
 ns0:Nat
 eh0:List (List b7)
 kb3:List Pt
structure rc5 where
 ns0:Nat
structure rc6 where
 is5:Int
 is6:Int
 eh0:List (List b7)
 kb3:List Pt
structure Gc9 where
 alt:Nat
 ns0:Nat
 eh0:List (List b7)
 kb3:List Pt
structure Yc8 where
 ns0:Nat
 eh0:List (List b7)
structure Jc0 where
 ns0:Nat
 os4:Nat
 ns4:Nat
structure Jc1 where
 is3:Int
 is5:Int
 eh0:List (List b7)
structure Jc2 where
 ns0:Nat
 eh0:List (List b7)
structure Jc3 where
 is3:Int
structure Yc9 where
 alt:Nat
 ns0:Nat
 eh0:List (List b7)
noncomputable def yc0:List (Nat×Sum):=[]
theorem kc7:j9 prog G yc0:=trivial
noncomputable def ua6 (x:Int) (y:Int):Option (b7×List b9):=(sl (decide (x < y)) (some ((i (-1)),[])) (sl (decide (x > y)) (some ((i 1),[])) (some ((i 0),[]))))
noncomputable def aa1 (x:Int) (y:Int):Int:=U2 (one r1I) (ua6 x y)
noncomputable def aa2 (x:Int) (y:Int):Bool:=okO (one r1I) (ua6 x y)
noncomputable def db9:Sum:=na9 cI cI (fun x y=>.guard (aa2 x y) (.ret ((one r1I).enc (aa1 x y),[])))
theorem wb4:i4 prog G 141 db9:=mb5 (bd af1 kc7) (one r1I) (o:=ua6) fun x y=>A0 (by kernel_rfl)
noncomputable def Yb6:List (Nat×Sum):=[(141,db9)]
theorem Qb4:j9 prog G Yb6:=⟨wb4,trivial⟩
noncomputable def la2 (x:Pln) (y:Pln):Option (b7×List b9):=let t1:=(aa1 x.n.x y.n.x);let t2:=(aa1 x.n.y y.n.y);let t3:=(aa1 x.n.z y.n.z);let t4:=(aa1 x.b y.b);(sl (aa2 x.n.x y.n.x) (sl (t1==0) (sl (aa2 x.n.y y.n.y) (sl (t2==0) (sl (aa2 x.n.z y.n.z) (sl (t3==0) (sl (aa2 x.b y.b) (sl (t4==0) (some ((i t4),[])) (some ((i t4),[]))) none) (some ((i t3),[]))) none) (some ((i t2),[]))) none) (some ((i t1),[]))) none)
noncomputable def wa3 (x:Pln) (y:Pln):Int:=U2 (one r1I) (la2 x y)
noncomputable def wa4 (x:Pln) (y:Pln):Bool:=okO (one r1I) (la2 x y)
noncomputable def Ma6:Sum:=na9 (S9 tP) (S9 tP) (fun x y=>.guard (wa4 x y) (.ret ((one r1I).enc (wa3 x y),[])))
theorem Yb7:i4 prog G 122 Ma6:=mb5 (bd Ze3 Qb4) (one r1I) (o:=la2) fun x y=>A0 (by kernel_rfl)
noncomputable def ld9:List (Nat×Sum):=[(138,Ba5)]
theorem Zc0:j9 prog G ld9:=⟨Ma4,trivial⟩
noncomputable def Va1 (x:V3):Option (b7×List b9):=let t1:=(K2 24 [x.x,x.y,x.z]);(sl (K3 24 [x.x,x.y,x.z]) (some ((b t1),[])) none)
noncomputable def ja9 (x:V3):Bool:=U2 (one r1B) (Va1 x)
noncomputable def ka0 (x:V3):Bool:=okO (one r1B) (Va1 x)
noncomputable def Va2:Sum:=Y1 (S9 tV) (fun x=>.guard (ka0 x) (.ret ((one r1B).enc (ja9 x),[])))
theorem bb9:i4 prog G 85 Va2:=Ua2 (bd b85 Zc0) (one r1B) (o:=Va1) fun x=>A0 (by kernel_rfl)
structure Sd4 where
 ca7:Int
 ca8:Int
 ca9:Int
 Hb7:Int
 r4:List Pln
structure Sd5 where
 alt:Nat
 bs0:Bool
structure Hc0 where
 Uc5:List Pt
 r4:List Pln
structure rc7 where
 Uc5:List Pt
 is7:Int
structure rc8 where
 is8:Int
 r4:List Pln
structure Hc1 where
 alt:Nat
 is0:Int
 r4:List Pln
structure kc8 where
 Uc5:List Pt
 r4:List Pln
structure kc9 where
 alt:Nat
 bs0:Bool
 r4:List Pln
structure Ge5 where
 j6:Int
 Ve5:Int
 Ve6:Int
 Ve7:Int
 Ve8:Int
 Ve9:Int
end Go.Ev.Ce
end
namespace Go.Proofs
open Go.Shelf
set_option maxRecDepth 100000 in
def Ce.sortLay_ren:Go.Shelf.Ren:=⟨fun | 6=>121 | 15=>180 | 14=>179 | 28=>207 | 29=>208 | 20=>199 | 21=>200 | 22=>201 | 23=>202 | 24=>203 | 25=>204 | 26=>205 | 27=>206 | 46=>223 | 47=>224 | 48=>225 | 49=>226 | 50=>227 | 57=>233 | n=>n,fun | 22=>24 | 24=>73 | 25=>148 | 3=>3 | 39=>173 | 0=>0 | 53=>197 | 55=>199 | 4=>4 | 46=>191 | 45=>190 | 50=>50 | 5=>5 | 9=>9 | 66=>210 | 70=>214 | 76=>218 | 77=>219 | n=>n,fun | n=>n⟩
set_option maxRecDepth 100000 in
theorem Ce.sortLay:Go.Proofs.SlLaysF0.n6 Tryz.prog Ce.sortLay_ren:={
 mixed:=by kernel_rfl
 f6:=⟨Tryz.f121.name,by decide,Tryz.func121.trans (congrArg some (by kernel_rfl))⟩
 f14:=⟨Tryz.f179.name,by decide,Tryz.func179.trans (congrArg some (by kernel_rfl))⟩
 f15:=Tryz.func180.trans (congrArg some (by kernel_rfl))
 f20:=⟨Tryz.f199.name,by decide,Tryz.func199.trans (congrArg some (by kernel_rfl))⟩
 f21:=⟨Tryz.f200.name,by decide,Tryz.func200.trans (congrArg some (by kernel_rfl))⟩
 f22:=⟨Tryz.f201.name,by decide,Tryz.func201.trans (congrArg some (by kernel_rfl))⟩
 f23:=⟨Tryz.f202.name,by decide,Tryz.func202.trans (congrArg some (by kernel_rfl))⟩
 f24:=⟨Tryz.f203.name,by decide,Tryz.func203.trans (congrArg some (by kernel_rfl))⟩
 f25:=⟨Tryz.f204.name,by decide,Tryz.func204.trans (congrArg some (by kernel_rfl))⟩
 f26:=⟨Tryz.f205.name,by decide,Tryz.func205.trans (congrArg some (by kernel_rfl))⟩
 f27:=⟨Tryz.f206.name,by decide,Tryz.func206.trans (congrArg some (by kernel_rfl))⟩
 f28:=Tryz.func207.trans (congrArg some (by kernel_rfl))
 f29:=Tryz.func208.trans (congrArg some (by kernel_rfl))
 f46:=⟨Tryz.f223.name,by decide,Tryz.func223.trans (congrArg some (by kernel_rfl))⟩
 f47:=Tryz.func224.trans (congrArg some (by kernel_rfl))
 f48:=Tryz.func225.trans (congrArg some (by kernel_rfl))
 f49:=⟨Tryz.f226.name,by decide,Tryz.func226.trans (congrArg some (by kernel_rfl))⟩
 f50:=⟨Tryz.f227.name,by decide,Tryz.func227.trans (congrArg some (by kernel_rfl))⟩
 f57:=⟨Tryz.f233.name,by decide,Tryz.func233.trans (congrArg some (by kernel_rfl))⟩
 t0:=Tryz.underlying0
 a0:=Tryz.isAgg0
 z0:=Tryz.sizeOf0
 v0:=Tryz.zeroValue0
 t3:=Tryz.underlying3
 a3:=Tryz.isAgg3
 z3:=Tryz.sizeOf3
 v3:=Tryz.zeroValue3
 t4:=Tryz.underlying4
 a4:=Tryz.isAgg4
 z4:=Tryz.sizeOf4
 v4:=Tryz.zeroValue4
 t5:=Tryz.underlying5
 a5:=Tryz.isAgg5
 z5:=Tryz.sizeOf5
 v5:=Tryz.zeroValue5
 t9:=Tryz.underlying9
 a9:=Tryz.isAgg9
 z9:=Tryz.sizeOf9
 v9:=Tryz.zeroValue9
 t22:=Tryz.underlying24
 a22:=Tryz.isAgg24
 z22:=Tryz.sizeOf24
 v22:=Tryz.zeroValue24
 t25:=Tryz.underlying148
 a25:=Tryz.isAgg148
 z25:=Tryz.sizeOf148
 v25:=Tryz.zeroValue148
 t39:=Tryz.underlying173
 a39:=Tryz.isAgg173
 z39:=Tryz.sizeOf173
 v39:=Tryz.zeroValue173
 t45:=Tryz.underlying190
 a45:=Tryz.isAgg190
 z45:=Tryz.sizeOf190
 v45:=Tryz.zeroValue190
 t46:=Tryz.underlying191
 a46:=Tryz.isAgg191
 z46:=Tryz.sizeOf191
 v46:=Tryz.zeroValue191
 t50:=Tryz.underlying50
 a50:=Tryz.isAgg50
 z50:=Tryz.sizeOf50
 v50:=Tryz.zeroValue50
 t53:=Tryz.underlying197
 a53:=Tryz.isAgg197
 z53:=Tryz.sizeOf197
 v53:=Tryz.zeroValue197
 t55:=Tryz.underlying199
 a55:=Tryz.isAgg199
 z55:=Tryz.sizeOf199
 v55:=Tryz.zeroValue199
 t66:=Tryz.underlying210
 a66:=Tryz.isAgg210
 z66:=Tryz.sizeOf210
 v66:=Tryz.zeroValue210
 t70:=Tryz.underlying214
 a70:=Tryz.isAgg214
 z70:=Tryz.sizeOf214
 v70:=Tryz.zeroValue214
 t76:=Tryz.underlying218
 a76:=Tryz.isAgg218
 z76:=Tryz.sizeOf218
 v76:=Tryz.zeroValue218
 t77:=Tryz.underlying219
 a77:=Tryz.isAgg219
 z77:=Tryz.sizeOf219
 v77:=Tryz.zeroValue219 }
end Go.Proofs
namespace Go.Ev.Ce
open Go Go.Ev Go.Ev.L Go.Proofs Go.Sort
def eb0 (x y:Int):Int:=if x < y then -1 else if x > y then 1 else 0
def eb1 (x y:Pln):Int :=
 if eb0 x.n.x y.n.x=0 then if eb0 x.n.y y.n.y=0 then if eb0 x.n.z y.n.z=0 then eb0 x.b y.b else eb0 x.n.z y.n.z else eb0 x.n.y y.n.y else eb0 x.n.x y.n.x
theorem nb2 (x y:Int):eb0 x y < 0↔x < y:=by unfold eb0;split<;>(try split)<;>omega
theorem Qb5 (x y:Int):eb0 x y=0↔x=y:=by unfold eb0;split<;>(try split)<;>omega
def LtP (x y:Pln):Prop:=x.n.x < y.n.x∨x.n.x=y.n.x∧(x.n.y < y.n.y∨x.n.y=y.n.y∧(x.n.z < y.n.z∨x.n.z=y.n.z∧x.b < y.b))
instance (x y:Pln):Decidable (LtP x y):=by unfold LtP;exact inferInstance
theorem Zc1 (x y:Pln):eb1 x y < 0↔LtP x y:=by
 have h1:=nb2 x.n.x y.n.x;have h2:=Qb5 x.n.x y.n.x
 have h3:=nb2 x.n.y y.n.y;have h4:=Qb5 x.n.y y.n.y
 have h5:=nb2 x.n.z y.n.z;have h6:=Qb5 x.n.z y.n.z
 have h7:=nb2 x.b y.b
 unfold eb1 LtP
 split
 ·split
  ·split<;>omega
  ·omega
 ·omega
theorem Ga5 (x y:Pln):ltOf eb1 x y=decide (LtP x y):=by
 unfold ltOf
 rw[decide_eq_decide]
 exact Zc1 x y
theorem Re7:SWO (ltOf eb1) where
 irrefl x:=by rw[Ga5];simp[LtP]
 trans x y z h1 h2:=by rw[Ga5,decide_eq_true_eq] at *;unfold LtP at *;omega
 ntrans x y z h1 h2:=by rw[Ga5,decide_eq_false_iff_not] at *;unfold LtP at *;omega
theorem cf5 (x y:Pln) (h1:ltOf eb1 x y=false) (h2:ltOf eb1 y x=false):x=y:=by
 rw[Ga5,decide_eq_false_iff_not] at *
 unfold LtP at *
 obtain⟨⟨a,b,c⟩,d⟩:=x;obtain⟨⟨a',b',c'⟩,d'⟩:=y
 simp only at *
 have:a=a'∧b=b'∧c=c'∧d=d':=by omega
 obtain⟨rfl,rfl,rfl,rfl⟩:=this
 rfl
theorem md0 (x y:Int):ua6 x y=some (i (eb0 x y),[]):=by
 unfold ua6 eb0
 simp only[Jb3,decide_eq_true_eq]
 split<;>(try split)<;>rfl
theorem Fd5 (x y:Int):aa1 x y=eb0 x y:=by unfold aa1;rw[md0];rfl
theorem Fd6 (x y:Int):aa2 x y=true:=by unfold aa2;rw[md0];rfl
theorem yc1 (x y:Pln):la2 x y=some (i (eb1 x y),[]):=by
 unfold la2 eb1
 simp only[Fd5,Fd6,Jb3,beq_iff_eq,if_true]
 repeat' (first | rfl | split)
theorem Re8 (x y:Pln):wa3 x y=eb1 x y:=by unfold wa3;rw[yc1];rfl
theorem Re9 (x y:Pln):wa4 x y=true:=by unfold wa4;rw[yc1];rfl
theorem Se0 (x y:Pln):(Ma6 [.agg (tP.row x),.agg (tP.row y)] []).run=some (i (eb1 x y),[]):=by
 have:(Ma6 [.agg (tP.row x),.agg (tP.row y)] []).run=sel (wa4 x y) (some (i (wa3 x y),[])) none:=by kernel_rfl
 rw[this,Re9,Re8]
def Yb1 (p:Pln):List Value:=[.int .i64 p.n.x,.int .i64 p.n.y,.int .i64 p.n.z,.int .i64 p.b]
instance:Inhabited Pln:=⟨⟨⟨0,0,0⟩,0⟩⟩
def Fb3 (l:List Pln):List Pln:=l.mergeSort fun x y=>!ltOf eb1 y x
theorem Bb8 (l:List Pln):(Fb3 l).length=l.length:=List.length_mergeSort l
noncomputable def za5:Sum:=Ed8 tP 122 73 Fb3
theorem Zd9:Ce.sortLay_ren.f 6=121:=by kernel_rfl
theorem Rc5:Ce.sortLay_ren.t 24=73:=by kernel_rfl
set_option maxRecDepth 100000 in
theorem eb2:i4 prog G 121 za5:=by
 refine Ed9 (enc:=Yb1) (cf:=eb1) ⟨_,Tryz.func121,by kernel_rfl,of_decide_eq_true (by kernel_rfl)⟩ (by decide) (fun _=>rfl) (fun r h=>Sa6 (n:=4) h) (fun x v hv=>?_) Bb8
  (fun blk off size w=>Ed7 Yb7 Se0 (fun _=>rfl) (fun _=>rfl) _ _ _ _ _) (fun blk cap d w hcl hH hb hs=>?_)
 ·simp[Yb1] at hv
  rcases hv with rfl | rfl | rfl | rfl<;>rfl
 ·have eg:∀ args w,(callFunc 122 args).run Tryz.prog w=.ok (.enter 122 args) w:=enters_of Tryz.func122 (by kernel_rfl) rfl
  have:=AnyQ.slices_SortFunc Ce.sortLay 4 (by rw[Rc5];exact Tryz.isAgg73) (by rw[Rc5];exact Tryz.sizeOf73) Yb1 (fun _=>rfl) (fun x v hv=>by simp[Yb1] at hv;rcases hv with rfl | rfl | rfl | rfl<;>rfl) eb1 Re7 122 #[] blk 0 cap d w eg (hcl 0 d.size) hH hb hs
  rw[Zd9] at this
  refine this.mono fun e w' ⟨h1,d',n,os,h2,h3,h4⟩=>⟨h1,n,os,?_⟩
  have h5:=sorted_unique_holds Re7 cf5 d d' h2 h3
  rw[h4]
  show _=sortWorldK Yb1 4 w blk 0 n (d.toList.mergeSort fun x y=>!ltOf eb1 y x).toArray os
  rw[← h5]
end Go.Ev.Ce
section
namespace Go.Ev.Ce
open Go Go.Ev Go.Ev.L Go.Proofs
set_option maxRecDepth 100000
structure wa5 where
 is1:Int
 n5:List Int
 c7:Int
noncomputable def Yb8:List (Nat×Sum):=[(27,Qc6)]
theorem Qb6:j9 prog G Yb8:=⟨yd8,trivial⟩
structure wa6 where
 alt:Nat
 is0:Int
 c7:Int
noncomputable def ea1 {α:Type} (kk:wa6→α) (x:wa5):α:=let t1:=(Bb6 (gL tI x.n5 (W ((W (x.c7+1)) - 1)).toNat) x.is1);(sl (decide (x.c7≥(↑(List.length x.n5):Int))) (kk ⟨1,0,x.c7⟩) (sl (inB (W ((W (x.c7+1)) - 1)) (List.length x.n5)) (sl (Bb7 (gL tI x.n5 (W ((W (x.c7+1)) - 1)).toNat) x.is1) (kk ⟨1,t1,(W (x.c7+1))⟩) (kk ⟨0,0,0⟩)) (kk ⟨0,0,0⟩)))
noncomputable def A4 (x:wa5):wa6:=ea1 (fun r=>r) x
noncomputable def Ga6 (x:wa5) (r:wa6):DT (b7×List b9):=(.ite (Nat.beq r.alt 1) (.ret ((i r.is0),[⟨0,2,[[(eL tI x.n5),(i r.c7)]],true,false,0⟩])) .fail)
theorem lc0 {α β:Type} (F:α→β) (kk:wa6→α) (x:wa5):F (ea1 kk x)=ea1 (fun r=>F (kk r)) x:=by unfold ea1;(repeat' apply o9 (f:=F))<;>rfl
noncomputable def qb1:Sum:=Ua3 ⟨[(.s (.o (.ptr 0 0 0 0))),(.s (.o (.int .i64)))],[⟨0,2,true,(some [[(.c 1 (nL tI)),(.o (.int .i64))]])⟩],fun a H=>(⟨(toI (slT a 1)),(rL tI (slT (rwT (elT H 0) 0) 0)),(toI (slT (rwT (elT H 0) 0) 1))⟩,())⟩ (fun x=>Ga6 x (A4 x))
theorem Yb9:i4 prog G 68 qb1:=P8 (enc:=fun x=>⟨[(.ptr 0 0 0 0),(i x.is1)],[⟨0,2,[[(eL tI x.n5),(i x.c7)]],true,false,0⟩]⟩) (fun a H=>by kernel_rfl) (bd b68 Qb6) fun x=>A0 (Eq.trans (b:=ea1 (fun r=>(Ga6 x r).run) x) (by kernel_rfl) (lc0 (fun r=>(Ga6 x r).run) (fun r=>r) x).symm)
structure Le9 where
 is1:Int
 n5:List Int
 c7:Int
structure Me0 where
 alt:Nat
 ca7:Int
 ca8:Int
 ca9:Int
 n5:List Int
 c7:Int
noncomputable def yd9:List (Nat×Sum):=[]
theorem md1:j9 prog G yd9:=trivial
noncomputable def Ga7 (x:V3) (y:V3):V3:=(⟨(W (x.x - y.x)),(W (x.y - y.y)),(W (x.z - y.z))⟩:V3)
noncomputable def Rc6:Sum:=na9 (S9 tV) (S9 tV) (fun x y=>.ret ((one r1V).enc (Ga7 x y),[]))
theorem zd0:i4 prog G 128 Rc6:=wa2 (bd Ze4 md1) fun x y=>A0 (by kernel_rfl)
noncomputable def Nd6:List (Nat×Sum):=[(191,sa3)]
theorem zd1:j9 prog G Nd6:=⟨Ba4,trivial⟩
noncomputable def wb5 (x:V3):Option (b7×List b9):=(sl (decide (x.x < (-24))) (some ((b false),[])) (sl (decide (x.x > 24)) (some ((b false),[])) (sl (decide (x.y < (-24))) (some ((b false),[])) (sl (decide (x.y > 24)) (some ((b false),[])) (sl (decide (x.z < (-24))) (some ((b false),[])) (sl (decide (x.z > 24)) (some ((b false),[])) (some ((b true),[]))))))))
noncomputable def Va3 (x:V3):Bool:=U2 (one r1B) (wb5 x)
noncomputable def Va4 (x:V3):Bool:=okO (one r1B) (wb5 x)
noncomputable def yc2:Sum:=Y1 (S9 tV) (fun x=>.guard (Va4 x) (.ret ((one r1B).enc (Va3 x),[])))
theorem Rc7:i4 prog G 162 yc2:=Ua2 (bd af8 zd1) (one r1B) (o:=wb5) fun x=>A0 (by kernel_rfl)
noncomputable def yc3:List (Nat×Sum):=[(162,yc2),(128,Rc6),(164,gc7),(163,Jb8),(84,Yb3)]
theorem lc1:j9 prog G yc3:=⟨Rc7,zd0,Yc0,gc9,xc5,trivial⟩
noncomputable def ua7 (x:V3) (y:V3) (z:V3):Option (b7×List b9):=let t1:=(Va3 x);let t2:=(Va3 y);let t3:=(Va3 z);let t4:=(Ga7 y x);let t5:=(Ga7 z x);let t6:=(Ka7 t4 t5);let t7:=(ya7 t6);let t8:=(Ga1 t7.1 x);(sl (Va4 x) (sl (!t1) (some ((.tup [(.agg [(i 0),(i 0),(i 0),(i 0)]),(b false)]),[])) (sl (Va4 y) (sl (!t2) (some ((.tup [(.agg [(i 0),(i 0),(i 0),(i 0)]),(b false)]),[])) (sl (Va4 z) (sl (!t3) (some ((.tup [(.agg [(i 0),(i 0),(i 0),(i 0)]),(b false)]),[])) (sl (Va0 t6) (sl (t7.2==0) (some ((.tup [(.agg [(i 0),(i 0),(i 0),(i 0)]),(b false)]),[])) (some ((.tup [(.agg [(i t7.1.x),(i t7.1.y),(i t7.1.z),(i t8)]),(b true)]),[]))) none)) none)) none)) none)
noncomputable def Ia6 (x:V3) (y:V3) (z:V3):Pln×Bool:=U2 (two r1P r1B) (ua7 x y z)
noncomputable def Ia7 (x:V3) (y:V3) (z:V3):Bool:=okO (two r1P r1B) (ua7 x y z)
noncomputable def Fb4:Sum:=jc4 (S9 tV) (S9 tV) (S9 tV) (fun x y z=>.guard (Ia7 x y z) (.ret ((two r1P r1B).enc (Ia6 x y z),[])))
theorem yc4:i4 prog G 107 Fb4:=Ee5 (bd Ye8 lc1) (two r1P r1B) (o:=ua7) fun x y z=>A0 (by kernel_rfl)
noncomputable def md2:List (Nat×Sum):=[(156,hc3),(162,yc2),(84,Yb3)]
theorem Zc2:j9 prog G md2:=⟨Yc3,Rc7,xc5,trivial⟩
noncomputable def ya8 (x:Pln) (y:V3):Option (b7×List b9):=let t1:=(bb6 x);let t2:=(Va3 y);let t3:=(Ga1 x.n y);(sl (bb7 x) (sl (!t1) (some ((i 0),[])) (sl (Va4 y) (sl (!t2) (some ((i 0),[])) (sl (decide ((W (t3 - x.b)) < 0)) (some ((i (-1)),[])) (sl (decide ((W (t3 - x.b)) > 0)) (some ((i 1),[])) (some ((i 0),[]))))) none)) none)
noncomputable def nb3 (x:Pln) (y:V3):Int:=U2 (one r1I) (ya8 x y)
noncomputable def Kb4 (x:Pln) (y:V3):Bool:=okO (one r1I) (ya8 x y)
noncomputable def yc5:Sum:=na9 (S9 tP) (S9 tV) (fun x y=>.guard (Kb4 x y) (.ret ((one r1I).enc (nb3 x y),[])))
theorem md3:i4 prog G 135 yc5:=mb5 (bd Ze8 Zc2) (one r1I) (o:=ya8) fun x y=>A0 (by kernel_rfl)
structure Sd6 where
 c9:Int
 c7:Int
 d7:Int
 j6:Int
 C9:Int
 D0:Int
 D1:Int
 Vb9:Int
structure Sd7 where
 is7:Int
end Go.Ev.Ce
end
section
namespace Go.Ev.Ce
open Go Go.Ev Go.Ev.L Go.Proofs
set_option maxRecDepth 100000
noncomputable def La0:List (Nat×Sum):=[(107,Fb4),(135,yc5)]
theorem Zc3:j9 prog G La0:=⟨yc4,md3,trivial⟩
structure ka1 where
 f9:List V3
 is3:Int
 is4:Int
 is5:Int
 bs7:Bool
 c9:Int
 c7:Int
 d7:Int
 j6:Int
structure Y7 where
 is8:Int
noncomputable def Jc4 (p:ka1) (s:Y7):St:=⟨((eL tV p.f9)::(.unk::(.unk::((i p.is3)::((i p.is4)::((i p.is5)::((.ptr 0 0 0 0)::((b p.bs7)::((i s.is8)::(ra 48 [])))))))))),[⟨0,4,[[(i p.c9),(i p.c7),(i p.d7),(i p.j6)]],true,false,0⟩]⟩
noncomputable def T6 {α:Type} (k:Y7→α) (e:Nat→α) (z:α) (p:ka1) (s:Y7):α:=let t1:=(nb3 (⟨(⟨p.c9,p.c7,p.d7⟩:V3),p.j6⟩:Pln) (gL tV p.f9 s.is8.toNat));(sl (decide (s.is8 < (↑(List.length p.f9):Int))) (sl p.bs7 (sl (inB s.is8 (List.length p.f9)) (sl (Kb4 (⟨(⟨p.c9,p.c7,p.d7⟩:V3),p.j6⟩:Pln) (gL tV p.f9 s.is8.toNat)) (sl (t1 != 0) (e 1) (k ⟨(W (s.is8+1))⟩)) z) z) (e 2)) (e 3))
noncomputable def y6 (p:ka1) (s:Y7):Stp Y7:=T6 .next .exit .fail p s
noncomputable def nb4:Lo ka1 Y7:=⟨En La0,0,Zd1,[1,0,1,4,4,1,0,4,1,4,4,1,0,4,1,4,4,1,0,4,1,1,4,4],[0,3,4,5,6,7,8],.p,[⟨((.s (.c 3 (nL tV)))::((.s (.o .unk))::((.s (.o .unk))::((.s (.o (.int .i64)))::((.s (.o (.int .i64)))::((.s (.o (.int .i64)))::((.s (.o (.ptr 0 0 0 0)))::((.s (.o .bool))::((.s (.o (.int .i64)))::(ru2 48 [])))))))))),[⟨0,4,true,(some [[(.o (.int .i64)),(.o (.int .i64)),(.o (.int .i64)),(.o (.int .i64))]])⟩],fun a H=>(⟨(rL tV (slT a 0)),(toI (slT a 3)),(toI (slT a 4)),(toI (slT a 5)),(toB (slT a 7)),(toI (slT (rwT (elT H 0) 0) 0)),(toI (slT (rwT (elT H 0) 0) 1)),(toI (slT (rwT (elT H 0) 0) 2)),(toI (slT (rwT (elT H 0) 0) 3))⟩,⟨(toI (slT a 8))⟩)⟩],y6,[(none,fun p s=>⟨[(b false)],[]⟩),(some 6,fun p s=>⟨((eL tV p.f9)::(.unk::(.unk::((i p.is3)::((i p.is4)::((i p.is5)::((.ptr 0 0 0 0)::((b p.bs7)::((i s.is8)::(ra 32 ((i s.is8)::((eL tV p.f9)::((i (↑(List.length p.f9):Int))::((b (decide (s.is8 < (↑(List.length p.f9):Int))))::((b true)::((b p.bs7)::((b p.bs7)::(ra 9 [])))))))))))))))))),[⟨0,4,[[(i p.c9),(i p.c7),(i p.d7),(i p.j6)]],true,false,0⟩]⟩),(some 6,fun p s=>⟨((eL tV p.f9)::(.unk::(.unk::((i p.is3)::((i p.is4)::((i p.is5)::((.ptr 0 0 0 0)::((b p.bs7)::((i s.is8)::(ra 32 ((i s.is8)::((eL tV p.f9)::((i (↑(List.length p.f9):Int))::((b (decide (s.is8 < (↑(List.length p.f9):Int))))::((b false)::(u::((b false)::(ra 9 [])))))))))))))))))),[⟨0,4,[[(i p.c9),(i p.c7),(i p.d7),(i p.j6)]],true,false,0⟩]⟩)],Jc4⟩
theorem Jc5:nb4.Ok:=Lo.ok [] (by kernel_rfl) .nil rfl (.cons (fun a H=>by kernel_rfl) .nil) fun p s=>(.of @T6 (fun F _ _ _ _ _=>by unfold T6;(repeat' apply o9 (f:=F))<;>rfl) (by kernel_rfl))
structure Ba8 where
 is3:Int
 is4:Int
structure Y8 where
 f9:List V3
 is5:Int
noncomputable def Jc6 (p:Ba8) (s:Y8):St:=⟨((eL tV s.f9)::(.unk::(.unk::((i p.is3)::((i p.is4)::((i s.is5)::(ra 51 []))))))),[]⟩
noncomputable def ba8 {α:Type} (k:Y8→α) (e:Nat→α) (z:α) (p:Ba8) (s:Y8):α:=let t1:=(Ia6 (gL tV s.f9 p.is3.toNat) (gL tV s.f9 p.is4.toNat) (gL tV s.f9 s.is5.toNat));let t2:=(lp (y6 (⟨(rt tV s.f9),p.is3,p.is4,s.is5,t1.2,t1.1.n.x,t1.1.n.y,t1.1.n.z,t1.1.b⟩:ka1)) (⟨0⟩:Y7));(sl (decide (s.is5 < p.is4)) (sl (inB p.is3 (List.length s.f9)) (sl (inB p.is4 (List.length s.f9)) (sl (inB s.is5 (List.length s.f9)) (sl (Ia7 (gL tV s.f9 p.is3.toNat) (gL tV s.f9 p.is4.toNat) (gL tV s.f9 s.is5.toNat)) (sl ((cnE tV s.f9)&&true) (sl (Nat.beq t2.1 1) (e 1) (sl (Nat.beq t2.1 2) (k ⟨(rt tV s.f9),(W (s.is5+1))⟩) (sl (Nat.beq t2.1 3) (k ⟨(rt tV s.f9),(W (s.is5+1))⟩) z))) z) z) z) z) z) (e 2))
noncomputable def M4 (p:Ba8) (s:Y8):Stp Y8:=ba8 .next .exit .fail p s
noncomputable def nb5:Lo Ba8 Y8:=⟨En La0,0,Zd1,[1,0,1,4,4,1,0,4,1,4,4,1,0,4,1,4,4],[0,3,4,5],(.s .p (.s (.b (.s .p (.s .p (.b (.u nb4.ls))))) .p)),[⟨((.s (.c 3 (nL tV)))::((.s (.o .unk))::((.s (.o .unk))::((.s (.o (.int .i64)))::((.s (.o (.int .i64)))::((.s (.o (.int .i64)))::(ru2 51 []))))))),[],fun a H=>(⟨(toI (slT a 3)),(toI (slT a 4))⟩,⟨(rL tV (slT a 0)),(toI (slT a 5))⟩)⟩],M4,[(none,fun p s=>⟨[(b false)],[]⟩),(some 4,fun p s=>⟨((eL tV s.f9)::(.unk::(.unk::((i p.is3)::((i p.is4)::((i s.is5)::(ra 14 ((i s.is5)::((i p.is4)::((b (decide (s.is5 < p.is4)))::(ra 34 []))))))))))),[]⟩)],Jc6⟩
theorem Jc7:nb5.Ok:=Lo.ok [nb4.pr] (by kernel_rfl) (.cons Jc5 .nil) rfl (.cons (fun a H=>by kernel_rfl) .nil) fun p s=>(.of @ba8 (fun F _ _ _ _ _=>by unfold ba8;(repeat' apply o9 (f:=F))<;>rfl) (by kernel_rfl))
structure Ba9 where
 is3:Int
structure Y9 where
 f9:List V3
 is4:Int
noncomputable def Jc8 (p:Ba9) (s:Y9):St:=⟨((eL tV s.f9)::(.unk::(.unk::((i p.is3)::((i s.is4)::(ra 52 [])))))),[]⟩
noncomputable def ba9 {α:Type} (k:Y9→α) (e:Nat→α) (z:α) (p:Ba9) (s:Y9):α:=let t1:=(lp (M4 (⟨p.is3,s.is4⟩:Ba8)) (⟨(rt tV s.f9),0⟩:Y8));(sl (decide (s.is4 < p.is3)) (sl ((cnE tV s.f9)&&true) (sl (Nat.beq t1.1 1) (e 1) (sl (Nat.beq t1.1 2) (k ⟨t1.2.f9,(W (s.is4+1))⟩) z)) z) (e 2))
noncomputable def M5 (p:Ba9) (s:Y9):Stp Y9:=ba9 .next .exit .fail p s
noncomputable def nb6:Lo Ba9 Y9:=⟨En La0,0,Zd1,[1,0,1,4,4,1,0,4,1,4,4],[0,3,4],(.s .p (.s (.b (.s .p (.b (.u nb5.ls)))) .p)),[⟨((.s (.c 3 (nL tV)))::((.s (.o .unk))::((.s (.o .unk))::((.s (.o (.int .i64)))::((.s (.o (.int .i64)))::(ru2 52 [])))))),[],fun a H=>(⟨(toI (slT a 3))⟩,⟨(rL tV (slT a 0)),(toI (slT a 4))⟩)⟩],M5,[(none,fun p s=>⟨[(b false)],[]⟩),(some 2,fun p s=>⟨((eL tV s.f9)::(.unk::(.unk::((i p.is3)::((i s.is4)::(ra 10 ((i s.is4)::((i p.is3)::((b (decide (s.is4 < p.is3)))::(ra 39 [])))))))))),[]⟩)],Jc8⟩
theorem Jc9:nb6.Ok:=Lo.ok [nb5.pr] (by kernel_rfl) (.cons Jc7 .nil) rfl (.cons (fun a H=>by kernel_rfl) .nil) fun p s=>(.of @ba9 (fun F _ _ _ _ _=>by unfold ba9;(repeat' apply o9 (f:=F))<;>rfl) (by kernel_rfl))
structure Ca0 where
structure Z0 where
 f9:List V3
 is3:Int
noncomputable def Kc0 (p:Ca0) (s:Z0):St:=⟨((eL tV s.f9)::(.unk::(.unk::((i s.is3)::(ra 53 []))))),[]⟩
noncomputable def ca0 {α:Type} (k:Z0→α) (e:Nat→α) (z:α) (p:Ca0) (s:Z0):α:=let t1:=(lp (M5 (⟨s.is3⟩:Ba9)) (⟨(rt tV s.f9),0⟩:Y9));(sl (decide (s.is3 < (↑(List.length s.f9):Int))) (sl ((cnE tV s.f9)&&true) (sl (Nat.beq t1.1 1) (e 1) (sl (Nat.beq t1.1 2) (k ⟨t1.2.f9,(W (s.is3+1))⟩) z)) z) (e 2))
noncomputable def M6 (p:Ca0) (s:Z0):Stp Z0:=ca0 .next .exit .fail p s
noncomputable def nb7:Lo Ca0 Z0:=⟨En La0,0,Zd1,[1,0,1,4,4],[0,3],(.s .p (.s (.b (.s .p (.b (.u nb6.ls)))) .p)),[⟨((.s (.c 3 (nL tV)))::((.s (.o .unk))::((.s (.o .unk))::((.s (.o (.int .i64)))::(ru2 53 []))))),[],fun a H=>(⟨⟩,⟨(rL tV (slT a 0)),(toI (slT a 3))⟩)⟩],M6,[(none,fun p s=>⟨[(b false)],[]⟩),(some 0,fun p s=>⟨((eL tV s.f9)::(.unk::(.unk::((i s.is3)::(ra 5 ((i s.is3)::((eL tV s.f9)::((i (↑(List.length s.f9):Int))::((b (decide (s.is3 < (↑(List.length s.f9):Int))))::(ra 44 [])))))))))),[]⟩)],Kc0⟩
theorem Kc1:nb7.Ok:=Lo.ok [nb6.pr] (by kernel_rfl) (.cons Jc9 .nil) rfl (.cons (fun a H=>by kernel_rfl) .nil) fun p s=>(.of @ca0 (fun F _ _ _ _ _=>by unfold ca0;(repeat' apply o9 (f:=F))<;>rfl) (by kernel_rfl))
noncomputable def ya9 (x:List V3):Option (b7×List b9):=let t1:=(lp (M6 (⟨⟩:Ca0)) (⟨(rt tV x),0⟩:Z0));(sl ((cnE tV x)&&true) (sl (Nat.beq t1.1 1) (some ((b false),[])) (sl (Nat.beq t1.1 2) (some ((b true),[])) none)) none)
noncomputable def Va5 (x:List V3):Bool:=U2 (one r1B) (ya9 x)
noncomputable def Ga8 (x:List V3):Bool:=okO (one r1B) (ya9 x)
noncomputable def yc6:Sum:=Y1 (ta7 tV) (fun x=>.guard (Ga8 x) (.ret ((one r1B).enc (Va5 x),[])))
theorem md4:i4 prog G 78 yc6:=Ua2 (bd b78 Zc3) (one r1B) (o:=ya9) fun x=>Pa9 (.s .p (.s (.s .p (.b (.u nb7.ls))) .p)) [nb7.pr] (by kernel_rfl) (.cons Kc1 .nil) (by kernel_rfl)
structure le2 where
 f9:List V3
structure le3 where
 is3:Int
structure le4 where
 Q8:List V3
 c9:Int
 c7:Int
 d7:Int
 j6:Int
structure le5 where
 is5:Int
structure Ae5 where
 n8:List Pln
 c9:Int
 c7:Int
 d7:Int
 j6:Int
structure Ae6 where
 is5:Int
structure le6 where
 f9:List V3
 is6:Int
 is7:Int
structure le7 where
 ph:Nat
 is8:Int
 Ce5:List Pln
structure le8 where
 is6:Int
structure le9 where
 ph:Nat
 f9:List V3
 is7:Int
 Ce5:List Pln
structure me0 where
structure me1 where
 ph:Nat
 f9:List V3
 is6:Int
 Ce5:List Pln
noncomputable def Fb5:List (Nat×Sum):=[(68,qb1),(78,yc6)]
theorem yc7:j9 prog G Fb5:=⟨Yb9,md4,trivial⟩
structure T7 where
 is4:Int
structure p7 where
 ph:Nat
 is6:Int
 n5:List Int
 c7:Int
 ns5:Nat
 eh1:List (List b7)
noncomputable def Zb0 (p:T7) (s:p7):St:=⟨(ra 3 ((.ptr 0 0 0 0)::((i p.is4)::((.v (.slice none 0 0))::((i s.is6)::(ra 127 [])))))),[⟨0,2,[[(eL tI s.n5),(i s.c7)]],true,false,0⟩]⟩
noncomputable def Zb1 (p:T7) (s:p7):St:=⟨(ra 3 ((.ptr 0 0 0 0)::((i p.is4)::((.sl 1 0 s.ns5 0)::((i s.is6)::(ra 127 [])))))),[⟨0,2,[[(eL tI s.n5),(i s.c7)]],true,false,0⟩,⟨27,3,s.eh1,true,false,0⟩]⟩
noncomputable def lc2 (p:T7) (s:p7):St:=(sel (Nat.beq s.ph 1) (Zb1 p s) (Zb0 p s))
noncomputable def R5 {α:Type} (k:p7→α) (e:Nat→α) (z:α) (p:T7) (s:p7):α:=let t1:=(A4 ⟨17,(rt tI s.n5),s.c7⟩);let t2:=(A4 ⟨17,(rt tI (rt tI s.n5)),t1.c7⟩);let t3:=(A4 ⟨17,(rt tI (rt tI (rt tI s.n5))),t2.c7⟩);let t4:=(A4 ⟨6,(rt tI (rt tI (rt tI (rt tI s.n5)))),t3.c7⟩);(sl (decide (s.is6 < p.is4)) (sl ((cnE tI s.n5)&&true) (sl (Nat.beq t1.alt 1) (sl ((cnE tI (rt tI s.n5))&&true) (sl (Nat.beq t2.alt 1) (sl ((cnE tI (rt tI (rt tI s.n5)))&&true) (sl (Nat.beq t3.alt 1) (sl ((cnE tI (rt tI (rt tI (rt tI s.n5))))&&true) (sl (Nat.beq t4.alt 1) (sl (t4.is0==1) (sl (decide (s.is6 > 1)) z (sl (t4.is0==2) (sl (decide (s.is6 > 0)) z (sl (t4.is0==3) (sl (decide (s.is6 > 2)) z (k ⟨1,(W (s.is6+1)),(rt tI (rt tI (rt tI (rt tI s.n5)))),t4.c7,1,[[(i (W (t1.is0 - 8))),(i (W (t2.is0 - 8))),(i (W (t3.is0 - 8)))]]⟩)) (k ⟨1,(W (s.is6+1)),(rt tI (rt tI (rt tI (rt tI s.n5)))),t4.c7,1,[[(i (W (t1.is0 - 8))),(i (W (t2.is0 - 8))),(i (W (t3.is0 - 8)))]]⟩))) (sl (t4.is0==3) (sl (decide (s.is6 > 2)) z (k ⟨1,(W (s.is6+1)),(rt tI (rt tI (rt tI (rt tI s.n5)))),t4.c7,1,[[(i (W (t1.is0 - 8))),(i (W (t2.is0 - 8))),(i (W (t3.is0 - 8)))]]⟩)) (k ⟨1,(W (s.is6+1)),(rt tI (rt tI (rt tI (rt tI s.n5)))),t4.c7,1,[[(i (W (t1.is0 - 8))),(i (W (t2.is0 - 8))),(i (W (t3.is0 - 8)))]]⟩)))) (sl (t4.is0==2) (sl (decide (s.is6 > 0)) z (sl (t4.is0==3) (sl (decide (s.is6 > 2)) z (k ⟨1,(W (s.is6+1)),(rt tI (rt tI (rt tI (rt tI s.n5)))),t4.c7,1,[[(i (W (t1.is0 - 8))),(i (W (t2.is0 - 8))),(i (W (t3.is0 - 8)))]]⟩)) (k ⟨1,(W (s.is6+1)),(rt tI (rt tI (rt tI (rt tI s.n5)))),t4.c7,1,[[(i (W (t1.is0 - 8))),(i (W (t2.is0 - 8))),(i (W (t3.is0 - 8)))]]⟩))) (sl (t4.is0==3) (sl (decide (s.is6 > 2)) z (k ⟨1,(W (s.is6+1)),(rt tI (rt tI (rt tI (rt tI s.n5)))),t4.c7,1,[[(i (W (t1.is0 - 8))),(i (W (t2.is0 - 8))),(i (W (t3.is0 - 8)))]]⟩)) (k ⟨1,(W (s.is6+1)),(rt tI (rt tI (rt tI (rt tI s.n5)))),t4.c7,1,[[(i (W (t1.is0 - 8))),(i (W (t2.is0 - 8))),(i (W (t3.is0 - 8)))]]⟩)))) z) z) z) z) z) z) z) z) (e 1))
noncomputable def p4 {α:Type} (k:p7→α) (e:Nat→α) (z:α) (p:T7) (s:p7):α:=let t1:=(A4 ⟨17,(rt tI s.n5),s.c7⟩);let a0:=(i7 s.eh1 (0+(W (s.is6 - 1)).toNat));let a1:=(Nat.beq s.ns5 (len s.eh1)&&Nat.ble ((s.ns5+1)*24) room);let a3:=(g8 (i7 s.eh1 (0+(W (s.is6 - 2)).toNat)) 0);let a4:=((Nat.blt (0+(W (s.is6 - 1)).toNat) (len s.eh1))&&(Nat.ble (2+1) (len a0)));let a5:=(i (W (Int.tdiv (W ((toI (hdA (tlA (g8 a0 0))))+(toI (hdA (tlA a3))))) 2)));let a6:=(i (W (Int.tdiv (W ((toI (hdA (g8 a0 0)))+(toI (hdA a3)))) 2)));let a7:=(app s.eh1 [[a6,a5,(i (W (Int.tdiv (W ((toI (hdA (tlA (tlA (g8 a0 0)))))+(toI (hdA (tlA (tlA a3)))))) 2)))]]);let a8:=(inB (W (s.is6 - 1)) s.ns5);let a9:=(i (toI (hdA (tlA (g8 a0 0)))));let a10:=((Nat.blt (0+(W (s.is6 - 1)).toNat) (len s.eh1))&&(Nat.ble (0+3) (len a0)));let a11:=(i (toI (hdA (g8 a0 0))));let a12:=(app s.eh1 [[a11,a9,(i (toI (hdA (tlA (tlA (g8 a0 0))))))]]);let a13:=(i (toI (hdA (g8 a0 2))));let a14:=(rt tI (rt tI s.n5));let t2:=(A4 ⟨17,a14,t1.c7⟩);let t3:=(A4 ⟨17,(rt tI a14),t2.c7⟩);let a2:=(rt tI (rt tI a14));let t4:=(A4 ⟨6,a2,t3.c7⟩);(sl (decide (s.is6 < p.is4)) (sl ((cnE tI s.n5)&&true) (sl (Nat.beq t1.alt 1) (sl ((cnE tI (rt tI s.n5))&&true) (sl (Nat.beq t2.alt 1) (sl ((cnE tI a14)&&true) (sl (Nat.beq t3.alt 1) (sl ((cnE tI (rt tI a14))&&true) (sl (Nat.beq t4.alt 1) (sl (t4.is0==1) (sl (decide (s.is6 > 1)) (sl a8 (sl (a10&&(ba3 [(CK.int .i64),(CK.int .i64),(CK.int .i64)] (g8 a0 0))) (sl (inB (W (s.is6 - 2)) s.ns5) (sl (((Nat.blt (0+(W (s.is6 - 2)).toNat) (len s.eh1))&&(Nat.ble (0+3) (len (i7 s.eh1 (0+(W (s.is6 - 2)).toNat)))))&&(ba3 [(CK.int .i64),(CK.int .i64),(CK.int .i64)] a3)) (sl (t4.is0==2) (sl (decide (s.is6 > 0)) (sl a8 (sl (a10&&(ba3 [(CK.int .i64),(CK.int .i64),(CK.int .i64)] (g8 a0 0))) (sl (t4.is0==3) (sl (decide (s.is6 > 2)) (sl a8 (sl (a4&&(ba3 [(CK.int .i64)] (g8 a0 2))) (sl a1 (k ⟨1,(W (s.is6+1)),a2,t4.c7,(s.ns5+1),(app s.eh1 [[a11,a9,a13]])⟩) z) z) z) (sl a1 (k ⟨1,(W (s.is6+1)),a2,t4.c7,(s.ns5+1),a12⟩) z)) (sl a1 (k ⟨1,(W (s.is6+1)),a2,t4.c7,(s.ns5+1),a12⟩) z)) z) z) (sl (t4.is0==3) (sl (decide (s.is6 > 2)) (sl a8 (sl (a4&&(ba3 [(CK.int .i64)] (g8 a0 2))) (sl a1 (k ⟨1,(W (s.is6+1)),a2,t4.c7,(s.ns5+1),(app s.eh1 [[a6,a5,a13]])⟩) z) z) z) (sl a1 (k ⟨1,(W (s.is6+1)),a2,t4.c7,(s.ns5+1),a7⟩) z)) (sl a1 (k ⟨1,(W (s.is6+1)),a2,t4.c7,(s.ns5+1),a7⟩) z))) (sl (t4.is0==3) (sl (decide (s.is6 > 2)) (sl a8 (sl (a4&&(ba3 [(CK.int .i64)] (g8 a0 2))) (sl a1 (k ⟨1,(W (s.is6+1)),a2,t4.c7,(s.ns5+1),(app s.eh1 [[a6,a5,a13]])⟩) z) z) z) (sl a1 (k ⟨1,(W (s.is6+1)),a2,t4.c7,(s.ns5+1),a7⟩) z)) (sl a1 (k ⟨1,(W (s.is6+1)),a2,t4.c7,(s.ns5+1),a7⟩) z))) z) z) z) z) (sl (t4.is0==2) (sl (decide (s.is6 > 0)) (sl a8 (sl (a10&&(ba3 [(CK.int .i64),(CK.int .i64),(CK.int .i64)] (g8 a0 0))) (sl (t4.is0==3) (sl (decide (s.is6 > 2)) (sl a8 (sl (a4&&(ba3 [(CK.int .i64)] (g8 a0 2))) (sl a1 (k ⟨1,(W (s.is6+1)),a2,t4.c7,(s.ns5+1),(app s.eh1 [[a11,a9,a13]])⟩) z) z) z) (sl a1 (k ⟨1,(W (s.is6+1)),a2,t4.c7,(s.ns5+1),a12⟩) z)) (sl a1 (k ⟨1,(W (s.is6+1)),a2,t4.c7,(s.ns5+1),a12⟩) z)) z) z) (sl (t4.is0==3) (sl (decide (s.is6 > 2)) (sl a8 (sl (a4&&(ba3 [(CK.int .i64)] (g8 a0 2))) (sl a1 (k ⟨1,(W (s.is6+1)),a2,t4.c7,(s.ns5+1),(app s.eh1 [[(i (W (t1.is0 - 8))),(i (W (t2.is0 - 8))),a13]])⟩) z) z) z) (sl a1 (k ⟨1,(W (s.is6+1)),a2,t4.c7,(s.ns5+1),(app s.eh1 [[(i (W (t1.is0 - 8))),(i (W (t2.is0 - 8))),(i (W (t3.is0 - 8)))]])⟩) z)) (sl a1 (k ⟨1,(W (s.is6+1)),a2,t4.c7,(s.ns5+1),(app s.eh1 [[(i (W (t1.is0 - 8))),(i (W (t2.is0 - 8))),(i (W (t3.is0 - 8)))]])⟩) z))) (sl (t4.is0==3) (sl (decide (s.is6 > 2)) (sl a8 (sl (a4&&(ba3 [(CK.int .i64)] (g8 a0 2))) (sl a1 (k ⟨1,(W (s.is6+1)),a2,t4.c7,(s.ns5+1),(app s.eh1 [[(i (W (t1.is0 - 8))),(i (W (t2.is0 - 8))),a13]])⟩) z) z) z) (sl a1 (k ⟨1,(W (s.is6+1)),a2,t4.c7,(s.ns5+1),(app s.eh1 [[(i (W (t1.is0 - 8))),(i (W (t2.is0 - 8))),(i (W (t3.is0 - 8)))]])⟩) z)) (sl a1 (k ⟨1,(W (s.is6+1)),a2,t4.c7,(s.ns5+1),(app s.eh1 [[(i (W (t1.is0 - 8))),(i (W (t2.is0 - 8))),(i (W (t3.is0 - 8)))]])⟩) z)))) (sl (t4.is0==2) (sl (decide (s.is6 > 0)) (sl a8 (sl (a10&&(ba3 [(CK.int .i64),(CK.int .i64),(CK.int .i64)] (g8 a0 0))) (sl (t4.is0==3) (sl (decide (s.is6 > 2)) (sl a8 (sl (a4&&(ba3 [(CK.int .i64)] (g8 a0 2))) (sl a1 (k ⟨1,(W (s.is6+1)),a2,t4.c7,(s.ns5+1),(app s.eh1 [[a11,a9,a13]])⟩) z) z) z) (sl a1 (k ⟨1,(W (s.is6+1)),a2,t4.c7,(s.ns5+1),a12⟩) z)) (sl a1 (k ⟨1,(W (s.is6+1)),a2,t4.c7,(s.ns5+1),a12⟩) z)) z) z) (sl (t4.is0==3) (sl (decide (s.is6 > 2)) (sl a8 (sl (a4&&(ba3 [(CK.int .i64)] (g8 a0 2))) (sl a1 (k ⟨1,(W (s.is6+1)),a2,t4.c7,(s.ns5+1),(app s.eh1 [[(i (W (t1.is0 - 8))),(i (W (t2.is0 - 8))),a13]])⟩) z) z) z) (sl a1 (k ⟨1,(W (s.is6+1)),a2,t4.c7,(s.ns5+1),(app s.eh1 [[(i (W (t1.is0 - 8))),(i (W (t2.is0 - 8))),(i (W (t3.is0 - 8)))]])⟩) z)) (sl a1 (k ⟨1,(W (s.is6+1)),a2,t4.c7,(s.ns5+1),(app s.eh1 [[(i (W (t1.is0 - 8))),(i (W (t2.is0 - 8))),(i (W (t3.is0 - 8)))]])⟩) z))) (sl (t4.is0==3) (sl (decide (s.is6 > 2)) (sl a8 (sl (a4&&(ba3 [(CK.int .i64)] (g8 a0 2))) (sl a1 (k ⟨1,(W (s.is6+1)),a2,t4.c7,(s.ns5+1),(app s.eh1 [[(i (W (t1.is0 - 8))),(i (W (t2.is0 - 8))),a13]])⟩) z) z) z) (sl a1 (k ⟨1,(W (s.is6+1)),a2,t4.c7,(s.ns5+1),(app s.eh1 [[(i (W (t1.is0 - 8))),(i (W (t2.is0 - 8))),(i (W (t3.is0 - 8)))]])⟩) z)) (sl a1 (k ⟨1,(W (s.is6+1)),a2,t4.c7,(s.ns5+1),(app s.eh1 [[(i (W (t1.is0 - 8))),(i (W (t2.is0 - 8))),(i (W (t3.is0 - 8)))]])⟩) z)))) z) z) z) z) z) z) z) z) (e 2))
noncomputable def ea2 (p:T7) (s:p7):Stp p7:=(sel (Nat.beq s.ph 1) (p4 .next .exit .fail p s) (R5 .next .exit .fail p s))
noncomputable def Va6:Lo T7 p7:=⟨En Fb5,0,Oe1,[1,1,1,1,0,1,4,4],[3,4,5,6],.p,[⟨(ru2 3 ((.s (.o (.ptr 0 0 0 0)))::((.s (.o (.int .i64)))::((.s (.o .nil))::((.s (.o (.int .i64)))::(ru2 127 [])))))),[⟨0,2,true,(some [[(.c 1 (nL tI)),(.o (.int .i64))]])⟩],fun a H=>(⟨(toI (slT a 4))⟩,⟨0,(toI (slT a 6)),(rL tI (slT (rwT (elT H 0) 0) 0)),(toI (slT (rwT (elT H 0) 0) 1)),0,[]⟩)⟩,⟨(ru2 3 ((.s (.o (.ptr 0 0 0 0)))::((.s (.o (.int .i64)))::((.s (.o (.sl 1 0 (some 0) none)))::((.s (.o (.int .i64)))::(ru2 127 [])))))),[⟨0,2,true,(some [[(.c 1 (nL tI)),(.o (.int .i64))]])⟩,⟨27,3,true,none⟩],fun a H=>(⟨(toI (slT a 4))⟩,⟨1,(toI (slT a 6)),(rL tI (slT (rwT (elT H 0) 0) 0)),(toI (slT (rwT (elT H 0) 0) 1)),(slN (slT a 5)),(elT H 1)⟩)⟩],ea2,[(some 0,fun p s=>⟨(ra 3 ((.ptr 0 0 0 0)::((i p.is4)::((.v (.slice none 0 0))::((i s.is6)::(ra 11 ((i s.is6)::((i p.is4)::((b (decide (s.is6 < p.is4)))::(ra 113 [])))))))))),[⟨0,2,[[(eL tI s.n5),(i s.c7)]],true,false,0⟩]⟩),(some 0,fun p s=>⟨(ra 3 ((.ptr 0 0 0 0)::((i p.is4)::((.sl 1 0 s.ns5 0)::((i s.is6)::(ra 11 ((i s.is6)::((i p.is4)::((b (decide (s.is6 < p.is4)))::(ra 113 [])))))))))),[⟨0,2,[[(eL tI s.n5),(i s.c7)]],true,false,0⟩,⟨27,3,s.eh1,true,false,0⟩]⟩)],lc2⟩
theorem lc3:Va6.Ok:=Lo.ok [] (by kernel_rfl) .nil rfl (.cons (fun a H=>by kernel_rfl) (.cons (fun a H=>by kernel_rfl) .nil)) fun p s=>(.sel (Nat.beq s.ph 1) (.of @p4 (fun F _ _ _ _ _=>by unfold p4;(repeat' apply o9 (f:=F))<;>rfl) (by kernel_rfl)) (.of @R5 (fun F _ _ _ _ _=>by unfold R5;(repeat' apply o9 (f:=F))<;>rfl) (by kernel_rfl)))
noncomputable def ka2 (x:List Int):Option (b7×List b9):=let t1:=(A4 ⟨5,(rt tI x),0⟩);let t2:=(lp (ea2 (⟨(W (4+t1.is0))⟩:T7)) (⟨0,0,(rt tI (rt tI x)),t1.c7,0,[]⟩:p7));let t3:=(Va5 []);let t4:=(Va5 (lsL tV t2.2.ns5 (fun k=>i7 t2.2.eh1 (0+k))));let a0:=(g8 (i7 t2.2.eh1 0) 0);let a1:=(i (toI (hdA (tlA (tlA a0)))));let a2:=(i (W ((toI (hdA a0)) - 3)));let a3:=(setAt t2.2.eh1 1 (P7 (i7 t2.2.eh1 1) 0 [a2,(i (toI (hdA (tlA a0)))),a1]));let a4:=(i (W ((toI (hdA (tlA a0))) - 2)));(sl ((cnE tI x)&&true) (sl (Nat.beq t1.alt 1) (sl ((cnE tI (rt tI x))&&true) (sl (Nat.beq t2.1 1) (sl (Ga8 []) (sl t3 none (some ((.v (.slice none 0 0)),[]))) none) (sl (Nat.beq t2.1 2) (sl (okL tV t2.2.ns5 (fun k=>i7 t2.2.eh1 (0+k))) (sl (Ga8 (lsL tV t2.2.ns5 (fun k=>i7 t2.2.eh1 (0+k)))) (sl t4 (sl (inB 0 t2.2.ns5) (sl (((Nat.blt 0 (len t2.2.eh1))&&(Nat.ble (0+3) (len (i7 t2.2.eh1 0))))&&(ba3 [(CK.int .i64),(CK.int .i64),(CK.int .i64)] a0)) (sl (inB 1 t2.2.ns5) (sl ((Nat.blt 1 (len t2.2.eh1))&&(Nat.ble (0+3) (len (i7 t2.2.eh1 1)))) (sl (inB 2 t2.2.ns5) (sl ((Nat.blt 2 (len a3))&&(Nat.ble (0+3) (len (i7 a3 2)))) (sl (inB 3 t2.2.ns5) (sl ((Nat.blt 3 (len (setAt a3 2 (P7 (i7 a3 2) 0 [(i (toI (hdA a0))),a4,a1]))))&&(Nat.ble (0+3) (len (i7 (setAt a3 2 (P7 (i7 a3 2) 0 [(i (toI (hdA a0))),a4,a1])) 3)))) (some ((.sl 0 0 t2.2.ns5 0),[⟨27,3,(setAt (setAt a3 2 (P7 (i7 a3 2) 0 [(i (toI (hdA a0))),a4,a1])) 3 (P7 (i7 (setAt a3 2 (P7 (i7 a3 2) 0 [(i (toI (hdA a0))),a4,a1])) 3) 0 [(i (toI (hdA a0))),(i (toI (hdA (tlA a0)))),(i (W ((toI (hdA (tlA (tlA a0)))) - 1)))])),true,false,0⟩])) none) none) none) none) none) none) none) none) (some ((.sl 0 0 t2.2.ns5 0),[⟨27,3,t2.2.eh1,true,false,0⟩]))) none) none) none)) none) none) none)
noncomputable def d9 (x:List Int):List V3:=U2 (one (r1L tV)) (ka2 x)
noncomputable def Qa1 (x:List Int):Bool:=okO (one (r1L tV)) (ka2 x)
noncomputable def Zc4:Sum:=Y1 (ta7 tI) (fun x=>.guard (Qa1 x) (.ret ((one (r1L tV)).enc (d9 x),[])))
theorem Kc2:i4 prog G 25 Zc4:=Ua2 (bd b25 yc7) (one (r1L tV)) (o:=ka2) fun x=>Pa9 (.s .p (.s .p (.s .p (.s .p (.s (.s .p (.b (.u Va6.ls))) .p))))) [Va6.pr] (by kernel_rfl) (.cons lc3 .nil) (by kernel_rfl)
end Go.Ev.Ce
end
section
namespace Go.Ev.Ce
open Go Go.Ev Go.Ev.L Go.Proofs
set_option maxRecDepth 100000
noncomputable def hc5:List (Nat×Sum):=[]
theorem Zc5:j9 prog G hc5:=trivial
structure Ca1 where
 n8:List Pln
 La8:List Pln
structure Z1 where
 is5:Int
noncomputable def Kc3 (p:Ca1) (s:Z1):St:=⟨((eL tP p.n8)::((eL tP p.La8)::(ra 3 ((i s.is5)::(ra 20 []))))),[]⟩
noncomputable def pa7 {α:Type} (k:Z1→α) (e:Nat→α) (z:α) (p:Ca1) (s:Z1):α:=(sl (decide (s.is5 < (↑(List.length p.n8):Int))) (sl (inB s.is5 (List.length p.n8)) (sl (inB s.is5 (List.length p.La8)) (sl (!(((gL tP p.n8 s.is5.toNat).n.x==(gL tP p.La8 s.is5.toNat).n.x)&&(((gL tP p.n8 s.is5.toNat).n.y==(gL tP p.La8 s.is5.toNat).n.y)&&(((gL tP p.n8 s.is5.toNat).n.z==(gL tP p.La8 s.is5.toNat).n.z)&&(((gL tP p.n8 s.is5.toNat).b==(gL tP p.La8 s.is5.toNat).b)&&true))))) (e 1) (k ⟨(W (s.is5+1))⟩)) z) z) (e 2))
noncomputable def ua8 (p:Ca1) (s:Z1):Stp Z1:=pa7 .next .exit .fail p s
noncomputable def nb8:Lo Ca1 Z1:=⟨En hc5,0,Oe0,[1,1,0,1,4,4],[0,1,5],.p,[⟨((.s (.c 4 (nL tP)))::((.s (.c 4 (nL tP)))::(ru2 3 ((.s (.o (.int .i64)))::(ru2 20 []))))),[],fun a H=>(⟨(rL tP (slT a 0)),(rL tP (slT a 1))⟩,⟨(toI (slT a 5))⟩)⟩],ua8,[(none,fun p s=>⟨[(b false)],[]⟩),(some 0,fun p s=>⟨((eL tP p.n8)::((eL tP p.La8)::(ra 3 ((i s.is5)::(ra 5 ((i s.is5)::((eL tP p.n8)::((i (↑(List.length p.n8):Int))::((b (decide (s.is5 < (↑(List.length p.n8):Int))))::(ra 11 [])))))))))),[]⟩)],Kc3⟩
theorem Kc4:nb8.Ok:=Lo.ok [] (by kernel_rfl) .nil rfl (.cons (fun a H=>by kernel_rfl) .nil) fun p s=>(.of @pa7 (fun F _ _ _ _ _=>by unfold pa7;(repeat' apply o9 (f:=F))<;>rfl) (by kernel_rfl))
noncomputable def Va7 (x:List Pln) (y:List Pln):Option (b7×List b9):=let t1:=(lp (ua8 (⟨(rt tP x),(rt tP y)⟩:Ca1)) (⟨0⟩:Z1));(sl ((↑(List.length x):Int) != (↑(List.length y):Int)) (some ((b false),[])) (sl ((cnE tP x)&&((cnE tP y)&&true)) (sl (Nat.beq t1.1 1) (some ((b false),[])) (sl (Nat.beq t1.1 2) (some ((b true),[])) none)) none))
noncomputable def Va8 (x:List Pln) (y:List Pln):Bool:=U2 (one r1B) (Va7 x y)
noncomputable def Va9 (x:List Pln) (y:List Pln):Bool:=okO (one r1B) (Va7 x y)
noncomputable def yc8:Sum:=na9 (ta7 tP) (ta7 tP) (fun x y=>.guard (Va9 x y) (.ret ((one r1B).enc (Va8 x y),[])))
theorem md5:i4 prog G 23 yc8:=mb5 (bd b23 Zc5) (one r1B) (o:=Va7) fun x y=>Pa9 (.s .p (.s .p (.s (.s .p (.b (.u nb8.ls))) .p))) [nb8.pr] (by kernel_rfl) (.cons Kc4 .nil) (by kernel_rfl)
structure Ae7 where
 is6:Int
structure Ae8 where
 ns5:Nat
 eh0:List (List b7)
end Go.Ev.Ce
end
section
namespace Go.Ev.Ce
open Go Go.Ev Go.Ev.L Go.Proofs
set_option maxRecDepth 100000
structure md6 where
 alt:Nat
 ns0:Nat
 eh0:List (List b7)
end Go.Ev.Ce
end
section
namespace Go.Ev.Ce
open Go Go.Ev Go.Ev.L Go.Proofs
set_option maxRecDepth 100000
structure Ae9 where
 n8:List Pln
 c9:Int
 c7:Int
 d7:Int
 j6:Int
structure Be0 where
 is5:Int
end Go.Ev.Ce
end
section
namespace Go.Ev.Ce
open Go Go.Ev Go.Ev.L Go.Proofs
set_option maxRecDepth 100000
noncomputable def Zc6:List (Nat×Sum):=[]
theorem Kc5:j9 prog G Zc6:=trivial
noncomputable def pa8 (x:V3) (y:V3):V3:=(⟨(W (x.x - y.x)),(W (x.y - y.y)),(W (x.z - y.z))⟩:V3)
noncomputable def wb6:Sum:=na9 (S9 tV) (S9 tV) (fun x y=>.ret ((one r1V).enc (pa8 x y),[]))
theorem Qb7:i4 prog G 108 wb6:=wa2 (bd Ye9 Kc5) fun x y=>A0 (by kernel_rfl)
noncomputable def Kc6:List (Nat×Sum):=[(108,wb6)]
theorem yc9:j9 prog G Kc6:=⟨Qb7,trivial⟩
noncomputable def sa4 (x:Pln):Pln:=let t1:=(pa8 (⟨0,0,0⟩:V3) x.n);(⟨t1,(W (0 - x.b))⟩:Pln)
noncomputable def Qb8:Sum:=Y1 (S9 tP) (fun x=>.ret ((one r1P).enc (sa4 x),[]))
theorem Kc7:i4 prog G 52 Qb8:=Bb0 (bd b52 yc9) fun x=>A0 (by kernel_rfl)
end Go.Ev.Ce
end
section
namespace Go.Ev.Ce
open Go Go.Ev Go.Ev.L Go.Proofs
set_option maxRecDepth 100000
noncomputable def Kc8:List (Nat×Sum):=[(186,Ma5)]
theorem zc0:j9 prog G Kc8:=⟨ib0,trivial⟩
noncomputable def Ca2 (x:V3):Option (b7×List b9):=let t1:=(X2 [x.x,x.y,x.z]);(sl (X3 [x.x,x.y,x.z]) (sl (t1==0) (some ((.tup [(.agg [(i 0),(i 0),(i 0)]),(i 0)]),[])) (sl (t1==0) none (sl (t1==0) none (sl (t1==0) none (some ((.tup [(.agg [(i (W (Int.tdiv x.x t1))),(i (W (Int.tdiv x.y t1))),(i (W (Int.tdiv x.z t1)))]),(i t1)]),[])))))) none)
noncomputable def sa5 (x:V3):V3×Int:=U2 (two r1V r1I) (Ca2 x)
noncomputable def Qa2 (x:V3):Bool:=okO (two r1V r1I) (Ca2 x)
noncomputable def Qb9:Sum:=Y1 (S9 tV) (fun x=>.guard (Qa2 x) (.ret ((two r1V r1I).enc (sa5 x),[])))
theorem Kc9:i4 prog G 198 Qb9:=Ua2 (bd cf2 zc0) (two r1V r1I) (o:=Ca2) fun x=>A0 (by kernel_rfl)
noncomputable def Zb2:List (Nat×Sum):=[(85,Va2),(108,wb6),(142,db7),(198,Qb9),(83,Ka9)]
theorem Rb0:j9 prog G Zb2:=⟨bb9,Qb7,wb2,Kc9,Qa0,trivial⟩
noncomputable def la3 (x:V3) (y:V3) (z:V3):Option (b7×List b9):=let t1:=(ja9 x);let t2:=(ja9 y);let t3:=(ja9 z);let t4:=(pa8 y x);let t5:=(pa8 z x);let t6:=(aa0 t4 t5);let t7:=(sa5 t6);let t8:=(j7 t7.1 x);(sl (ka0 x) (sl (!t1) (some ((.tup [(.agg [(i 0),(i 0),(i 0),(i 0)]),(b false)]),[])) (sl (ka0 y) (sl (!t2) (some ((.tup [(.agg [(i 0),(i 0),(i 0),(i 0)]),(b false)]),[])) (sl (ka0 z) (sl (!t3) (some ((.tup [(.agg [(i 0),(i 0),(i 0),(i 0)]),(b false)]),[])) (sl (Qa2 t6) (some ((.tup [(.agg [(i t7.1.x),(i t7.1.y),(i t7.1.z),(i t8)]),(b (decide (t7.2 > 0)))]),[])) none)) none)) none)) none)
noncomputable def G9 (x:V3) (y:V3) (z:V3):Pln×Bool:=U2 (two r1P r1B) (la3 x y z)
noncomputable def ea3 (x:V3) (y:V3) (z:V3):Bool:=okO (two r1P r1B) (la3 x y z)
noncomputable def Ma7:Sum:=jc4 (S9 tV) (S9 tV) (S9 tV) (fun x y z=>.guard (ea3 x y z) (.ret ((two r1P r1B).enc (G9 x y z),[])))
theorem ib1:i4 prog G 177 Ma7:=Ee5 (bd bf3 Rb0) (two r1P r1B) (o:=la3) fun x y z=>A0 (by kernel_rfl)
noncomputable def Lc0:List (Nat×Sum):=[(140,db8),(85,Va2),(83,Ka9),(141,db9)]
theorem zc1:j9 prog G Lc0:=⟨wb3,bb9,Qa0,wb4,trivial⟩
noncomputable def Ca3 (x:Pln) (y:V3):Option (b7×List b9):=let t1:=(ua4 x);let t2:=(ja9 y);let t3:=(j7 x.n y);let t4:=(aa1 t3 x.b);(sl (ua5 x) (sl (!t1) (some ((i 0),[])) (sl (ka0 y) (sl (!t2) (some ((i 0),[])) (sl (aa2 t3 x.b) (some ((i t4),[])) none)) none)) none)
noncomputable def fa3 (x:Pln) (y:V3):Int:=U2 (one r1I) (Ca3 x y)
noncomputable def fa4 (x:Pln) (y:V3):Bool:=okO (one r1I) (Ca3 x y)
noncomputable def Ca4:Sum:=na9 (S9 tP) (S9 tV) (fun x y=>.guard (fa4 x y) (.ret ((one r1I).enc (fa3 x y),[])))
theorem Ia8:i4 prog G 88 Ca4:=mb5 (bd b88 zc1) (one r1I) (o:=Ca3) fun x y=>A0 (by kernel_rfl)
structure Ia9 where
 ca7:Int
 ca8:Int
 ca9:Int
 c9:Int
 c7:Int
 d7:Int
 j6:Int
noncomputable def zc2:List (Nat×Sum):=[(88,Ca4)]
theorem lc4:j9 prog G zc2:=⟨Ia8,trivial⟩
structure Ja0 where
 alt:Nat
 bs0:Bool
noncomputable def na0 {α:Type} (kk:Ja0→α) (x:Ia9):α:=let t1:=(fa3 (⟨(⟨x.c9,x.c7,x.d7⟩:V3),x.j6⟩:Pln) (⟨x.ca7,x.ca8,x.ca9⟩:V3));(sl (fa4 (⟨(⟨x.c9,x.c7,x.d7⟩:V3),x.j6⟩:Pln) (⟨x.ca7,x.ca8,x.ca9⟩:V3)) (kk ⟨1,(t1 != 0)⟩) (kk ⟨0,false⟩))
noncomputable def Ja1 (x:Ia9):Ja0:=na0 (fun r=>r) x
noncomputable def Wa0 (x:Ia9) (r:Ja0):DT (b7×List b9):=(.ite (Nat.beq r.alt 1) (.ret ((b r.bs0),[⟨0,4,[[(i x.c9),(i x.c7),(i x.d7),(i x.j6)]],true,false,0⟩])) .fail)
theorem Lc1 {α β:Type} (F:α→β) (kk:Ja0→α) (x:Ia9):F (na0 kk x)=na0 (fun r=>F (kk r)) x:=by unfold na0;(repeat' apply o9 (f:=F))<;>rfl
noncomputable def Fb6:Sum:=Ua3 ⟨[(.agg [(.o (.int .i64)),(.o (.int .i64)),(.o (.int .i64))]),(.s (.o (.ptr 0 0 0 0)))],[⟨0,4,true,(some [[(.o (.int .i64)),(.o (.int .i64)),(.o (.int .i64)),(.o (.int .i64))]])⟩],fun a H=>(⟨(toI (slT (cellsOf (slT a 0)) 0)),(toI (slT (cellsOf (slT a 0)) 1)),(toI (slT (cellsOf (slT a 0)) 2)),(toI (slT (rwT (elT H 0) 0) 0)),(toI (slT (rwT (elT H 0) 0) 1)),(toI (slT (rwT (elT H 0) 0) 2)),(toI (slT (rwT (elT H 0) 0) 3))⟩,())⟩ (fun x=>Wa0 x (Ja1 x))
theorem zc3:i4 prog G 197 Fb6:=P8 (enc:=fun x=>⟨[(.agg [(i x.ca7),(i x.ca8),(i x.ca9)]),(.ptr 0 0 0 0)],[⟨0,4,[[(i x.c9),(i x.c7),(i x.d7),(i x.j6)]],true,false,0⟩]⟩) (fun a H=>by kernel_rfl) (bd cf1 lc4) fun x=>A0 (Eq.trans (b:=na0 (fun r=>(Wa0 x r).run) x) (by kernel_rfl) (Lc1 (fun r=>(Wa0 x r).run) (fun r=>r) x).symm)
structure U8 where
 f9:List V3
 c9:Int
 c7:Int
 d7:Int
 j6:Int
noncomputable def ua9:List (Nat×Sum):=[(197,Fb6)]
theorem Za7:j9 prog G ua9:=⟨zc3,trivial⟩
structure I5 where
 f9:List V3
 is7:Int
 c9:Int
 c7:Int
 d7:Int
 j6:Int
structure o5 where
 is8:Int
noncomputable def Wa1 (p:I5) (s:o5):St:=⟨((eL tV p.f9)::((.fn 197 [(.ptr 0 0 0 0)])::(ra 5 ((i p.is7)::((i s.is8)::(ra 10 [])))))),[⟨0,4,[[(i p.c9),(i p.c7),(i p.d7),(i p.j6)]],true,false,0⟩]⟩
noncomputable def D8 {α:Type} (k:o5→α) (e:Nat→α) (z:α) (p:I5) (s:o5):α:=let t1:=(Ja1 ⟨(gL tV p.f9 s.is8.toNat).x,(gL tV p.f9 s.is8.toNat).y,(gL tV p.f9 s.is8.toNat).z,p.c9,p.c7,p.d7,p.j6⟩);(sl (decide (s.is8 < p.is7)) (sl (inB s.is8 (List.length p.f9)) (sl (Nat.beq t1.alt 1) (sl t1.bs0 (e 1) (k ⟨(W (s.is8+1))⟩)) z) z) (e 2))
noncomputable def F6 (p:I5) (s:o5):Stp o5:=D8 .next .exit .fail p s
noncomputable def da3:Lo I5 o5:=⟨En ua9,1,ld2,[1,0,1,4,4],[0,1,7,8],.p,[⟨((.s (.c 3 (nL tV)))::((.fn 197 [(.o (.ptr 0 0 0 0))])::(ru2 5 ((.s (.o (.int .i64)))::((.s (.o (.int .i64)))::(ru2 10 [])))))),[⟨0,4,true,(some [[(.o (.int .i64)),(.o (.int .i64)),(.o (.int .i64)),(.o (.int .i64))]])⟩],fun a H=>(⟨(rL tV (slT a 0)),(toI (slT a 7)),(toI (slT (rwT (elT H 0) 0) 0)),(toI (slT (rwT (elT H 0) 0) 1)),(toI (slT (rwT (elT H 0) 0) 2)),(toI (slT (rwT (elT H 0) 0) 3))⟩,⟨(toI (slT a 8))⟩)⟩],F6,[(none,fun p s=>⟨[(i s.is8)],[⟨0,4,[[(i p.c9),(i p.c7),(i p.d7),(i p.j6)]],true,false,0⟩]⟩),(some 0,fun p s=>⟨((eL tV p.f9)::((.fn 197 [(.ptr 0 0 0 0)])::(ra 5 ((i p.is7)::((i s.is8)::((b (decide (s.is8 < p.is7)))::(ra 9 []))))))),[⟨0,4,[[(i p.c9),(i p.c7),(i p.d7),(i p.j6)]],true,false,0⟩]⟩)],Wa1⟩
theorem Wa2:da3.Ok:=Lo.ok [] (by kernel_rfl) .nil rfl (.cons (fun a H=>by kernel_rfl) .nil) fun p s=>(.of @D8 (fun F _ _ _ _ _=>by unfold D8;(repeat' apply o9 (f:=F))<;>rfl) (by kernel_rfl))
structure U9 where
 alt:Nat
 is0:Int
noncomputable def E6 {α:Type} (kk:U9→α) (x:U8):α:=let t1:=(lp (F6 (⟨(rt tV x.f9),(↑(List.length x.f9):Int),x.c9,x.c7,x.d7,x.j6⟩:I5)) (⟨0⟩:o5));(sl ((cnE tV x.f9)&&true) (sl (Nat.beq t1.1 1) (kk ⟨1,t1.2.is8⟩) (sl (Nat.beq t1.1 2) (kk ⟨1,(-1)⟩) (kk ⟨0,0⟩))) (kk ⟨0,0⟩))
noncomputable def V0 (x:U8):U9:=E6 (fun r=>r) x
noncomputable def ha4 (x:U8) (r:U9):DT (b7×List b9):=(.ite (Nat.beq r.alt 1) (.ret ((i r.is0),[⟨0,4,[[(i x.c9),(i x.c7),(i x.d7),(i x.j6)]],true,false,0⟩])) .fail)
theorem ib2 {α β:Type} (F:α→β) (kk:U9→α) (x:U8):F (E6 kk x)=E6 (fun r=>F (kk r)) x:=by unfold E6;(repeat' apply o9 (f:=F))<;>rfl
noncomputable def za6:Sum:=Ua3 ⟨[(.s (.c 3 (nL tV))),(.fn 197 [(.o (.ptr 0 0 0 0))])],[⟨0,4,true,(some [[(.o (.int .i64)),(.o (.int .i64)),(.o (.int .i64)),(.o (.int .i64))]])⟩],fun a H=>(⟨(rL tV (slT a 0)),(toI (slT (rwT (elT H 0) 0) 0)),(toI (slT (rwT (elT H 0) 0) 1)),(toI (slT (rwT (elT H 0) 0) 2)),(toI (slT (rwT (elT H 0) 0) 3))⟩,())⟩ (fun x=>ha4 x (V0 x))
theorem eb3:i4 prog G 144 za6:=P8 (enc:=fun x=>⟨[(eL tV x.f9),(.fn 197 [(.ptr 0 0 0 0)])],[⟨0,4,[[(i x.c9),(i x.c7),(i x.d7),(i x.j6)]],true,false,0⟩]⟩) (fun a H=>by kernel_rfl) (bd qe5 Za7) fun x=>Pa9 (.s .p (.s (.s .p (.b (.u da3.ls))) .p)) [da3.pr] (by kernel_rfl) (.cons Wa2 .nil) (Eq.trans (b:=E6 (fun r=>(ha4 x r).run) x) (by kernel_rfl) (ib2 (fun r=>(ha4 x r).run) (fun r=>r) x).symm)
structure M9 where
 f9:List V3
 c9:Int
 c7:Int
 d7:Int
 j6:Int
noncomputable def Qa3:List (Nat×Sum):=[(144,za6)]
theorem Ma8:j9 prog G Qa3:=⟨eb3,trivial⟩
structure N0 where
 alt:Nat
 bs0:Bool
noncomputable def A5 {α:Type} (kk:N0→α) (x:M9):α:=let t1:=(V0 ⟨(rt tV x.f9),x.c9,x.c7,x.d7,x.j6⟩);(sl ((cnE tV x.f9)&&true) (sl (Nat.beq t1.alt 1) (kk ⟨1,(decide (t1.is0≥0))⟩) (kk ⟨0,false⟩)) (kk ⟨0,false⟩))
noncomputable def p8 (x:M9):N0:=A5 (fun r=>r) x
noncomputable def Z2 (x:M9) (r:N0):DT (b7×List b9):=(.ite (Nat.beq r.alt 1) (.ret ((b r.bs0),[⟨0,4,[[(i x.c9),(i x.c7),(i x.d7),(i x.j6)]],true,false,0⟩])) .fail)
theorem Wa3 {α β:Type} (F:α→β) (kk:N0→α) (x:M9):F (A5 kk x)=A5 (fun r=>F (kk r)) x:=by unfold A5;(repeat' apply o9 (f:=F))<;>rfl
noncomputable def pa9:Sum:=Ua3 ⟨[(.s (.c 3 (nL tV))),(.fn 197 [(.o (.ptr 0 0 0 0))])],[⟨0,4,true,(some [[(.o (.int .i64)),(.o (.int .i64)),(.o (.int .i64)),(.o (.int .i64))]])⟩],fun a H=>(⟨(rL tV (slT a 0)),(toI (slT (rwT (elT H 0) 0) 0)),(toI (slT (rwT (elT H 0) 0) 1)),(toI (slT (rwT (elT H 0) 0) 2)),(toI (slT (rwT (elT H 0) 0) 3))⟩,())⟩ (fun x=>Z2 x (p8 x))
theorem Qa4:i4 prog G 174 pa9:=P8 (enc:=fun x=>⟨[(eL tV x.f9),(.fn 197 [(.ptr 0 0 0 0)])],[⟨0,4,[[(i x.c9),(i x.c7),(i x.d7),(i x.j6)]],true,false,0⟩]⟩) (fun a H=>by kernel_rfl) (bd Ge2 Ma8) fun x=>A0 (Eq.trans (b:=A5 (fun r=>(Z2 x r).run) x) (by kernel_rfl) (Wa3 (fun r=>(Z2 x r).run) (fun r=>r) x).symm)
noncomputable def qb2:List (Nat×Sum):=[]
theorem Zb3:j9 prog G qb2:=trivial
@[reducible] noncomputable def qa0:Sum:=n4 (En qb2) ze9
theorem wa7:i4 prog G 119 qa0:=bd Ze1 Zb3
noncomputable def Qa5:List (Nat×Sum):=[(177,Ma7),(174,pa9),(119,qa0)]
theorem Lc2:j9 prog G Qa5:=⟨ib1,Qa4,wa7,trivial⟩
structure aa3 where
 is3:Int
 is4:Int
 is9:Int
 k8:Int
 S6:Int
 o0:Int
 wa0:Int
 b8:List V3
 e7:List V3
structure H4 where
 B4:Int
noncomputable def zc4 (p:aa3) (s:H4):St:=⟨(.unk::((.ptr 0 0 0 0)::(.unk::((i p.is3)::((i p.is4)::(ra 4 ((i p.is9)::((i p.k8)::(ra 5 ((i p.S6)::((i p.o0)::(ra 5 ((i p.wa0)::((i s.B4)::(ra 35 ((i 0)::(.unk::((.ptr 1 0 0 0)::((.ptr 2 0 0 0)::(ra 8 [])))))))))))))))))))),[⟨0,1,[[(eL tV p.b8)]],true,false,0⟩,⟨0,1,[[(eL tV p.e7)]],true,false,0⟩,⟨0,1,[[(b false)]],true,false,0⟩]⟩
noncomputable def la4 {α:Type} (k:H4→α) (e:Nat→α) (z:α) (p:aa3) (s:H4):α:=let t1:=(G9 (gL tV p.b8 s.B4.toNat) (gL tV p.b8 p.is4.toNat) (gL tV p.b8 p.is3.toNat));let t2:=(p8 ⟨(rt tV p.e7),t1.1.n.x,t1.1.n.y,t1.1.n.z,t1.1.b⟩);(sl (decide (s.B4 < p.wa0)) (sl (inB s.B4 (List.length p.b8)) (sl (inB p.is4 (List.length p.b8)) (sl (inB p.is3 (List.length p.b8)) (sl (ea3 (gL tV p.b8 s.B4.toNat) (gL tV p.b8 p.is4.toNat) (gL tV p.b8 p.is3.toNat)) (sl t1.2 (sl t1.2 (sl ((cnE tV p.e7)&&true) (sl (Nat.beq t2.alt 1) (e 1) z) z) (k ⟨(W (s.B4+1))⟩)) (sl t1.2 z (k ⟨(W (s.B4+1))⟩))) z) z) z) z) (e 2))
noncomputable def N1 (p:aa3) (s:H4):Stp H4:=la4 .next .exit .fail p s
noncomputable def eb4:Lo aa3 H4:=⟨En Qa5,0,Fd4,[1,0,1,4,4,1,4,4,1,1,0,4,1,1,4,4,1,1,0,4,1,1,4,4],[1,3,4,9,10,16,17,23,24,60,62,63],.p,[⟨((.s (.o .unk))::((.s (.o (.ptr 0 0 0 0)))::((.s (.o .unk))::((.s (.o (.int .i64)))::((.s (.o (.int .i64)))::(ru2 4 ((.s (.o (.int .i64)))::((.s (.o (.int .i64)))::(ru2 5 ((.s (.o (.int .i64)))::((.s (.o (.int .i64)))::(ru2 5 ((.s (.o (.int .i64)))::((.s (.o (.int .i64)))::(ru2 35 ((.s (.o (.lit .i64 0)))::((.s (.o .unk))::((.s (.o (.ptr 1 0 0 0)))::((.s (.o (.ptr 2 0 0 0)))::(ru2 8 [])))))))))))))))))))),[⟨0,1,true,(some [[(.c 3 (nL tV))]])⟩,⟨0,1,true,(some [[(.c 3 (nL tV))]])⟩,⟨0,1,true,(some [[(.o (.blit false))]])⟩],fun a H=>(⟨(toI (slT a 3)),(toI (slT a 4)),(toI (slT a 9)),(toI (slT a 10)),(toI (slT a 16)),(toI (slT a 17)),(toI (slT a 23)),(rL tV (slT (rwT (elT H 0) 0) 0)),(rL tV (slT (rwT (elT H 1) 0) 0))⟩,⟨(toI (slT a 24))⟩)⟩],N1,[(none,fun p s=>let t1:=(G9 (gL tV p.b8 s.B4.toNat) (gL tV p.b8 p.is4.toNat) (gL tV p.b8 p.is3.toNat));let t2:=(p8 ⟨(rt tV p.e7),t1.1.n.x,t1.1.n.y,t1.1.n.z,t1.1.b⟩);⟨(.unk::((.ptr 0 0 0 0)::(.unk::((i p.is3)::((i p.is4)::((i s.B4)::((.ptr 3 0 0 0)::((b t1.2)::(.unk::((i p.is9)::((i p.k8)::(ra 5 ((i p.S6)::((i p.o0)::(ra 5 ((i p.wa0)::((i s.B4)::((b (decide (s.B4 < p.wa0)))::((i s.B4)::((.tup [(.agg [(i t1.1.n.x),(i t1.1.n.y),(i t1.1.n.z),(i t1.1.b)]),(b t1.2)])::((eL tV p.b8)::((i s.B4)::((.tptr [(i (gL tV p.b8 s.B4.toNat).x),(i (gL tV p.b8 s.B4.toNat).y),(i (gL tV p.b8 s.B4.toNat).z)])::((.agg [(i (gL tV p.b8 s.B4.toNat).x),(i (gL tV p.b8 s.B4.toNat).y),(i (gL tV p.b8 s.B4.toNat).z)])::((eL tV p.b8)::((i p.is4)::((.tptr [(i (gL tV p.b8 p.is4.toNat).x),(i (gL tV p.b8 p.is4.toNat).y),(i (gL tV p.b8 p.is4.toNat).z)])::((.agg [(i (gL tV p.b8 p.is4.toNat).x),(i (gL tV p.b8 p.is4.toNat).y),(i (gL tV p.b8 p.is4.toNat).z)])::((eL tV p.b8)::((i p.is3)::((.tptr [(i (gL tV p.b8 p.is3.toNat).x),(i (gL tV p.b8 p.is3.toNat).y),(i (gL tV p.b8 p.is3.toNat).z)])::((.agg [(i (gL tV p.b8 p.is3.toNat).x),(i (gL tV p.b8 p.is3.toNat).y),(i (gL tV p.b8 p.is3.toNat).z)])::((.tup [(.agg [(i t1.1.n.x),(i t1.1.n.y),(i t1.1.n.z),(i t1.1.b)]),(b t1.2)])::((.agg [(i t1.1.n.x),(i t1.1.n.y),(i t1.1.n.z),(i t1.1.b)])::((b t1.2)::((b t1.2)::((b true)::(.unk::((.agg [(i t1.1.n.x),(i t1.1.n.y),(i t1.1.n.z),(i t1.1.b)])::((b false)::((b true)::((b true)::(.unk::(u::(u::(u::(u::((b true)::((b true)::(ra 3 ((i 1)::(.unk::((.ptr 1 0 0 0)::((.ptr 2 0 0 0)::(ra 8 []))))))))))))))))))))))))))))))))))))))))))))))))))))))),[⟨0,1,[[(eL tV p.b8)]],true,false,0⟩,⟨0,1,[[(eL tV p.e7)]],true,false,0⟩,⟨0,1,[[(b (!t2.bs0))]],true,false,0⟩,⟨0,4,[[(i t1.1.n.x),(i t1.1.n.y),(i t1.1.n.z),(i t1.1.b)]],true,false,0⟩,⟨0,4,[[(i t1.1.n.x),(i t1.1.n.y),(i t1.1.n.z),(i t1.1.b)]],true,false,0⟩]⟩),(some 4,fun p s=>⟨(.unk::((.ptr 0 0 0 0)::(.unk::((i p.is3)::((i p.is4)::(ra 4 ((i p.is9)::((i p.k8)::(ra 5 ((i p.S6)::((i p.o0)::(ra 5 ((i p.wa0)::((i s.B4)::((b (decide (s.B4 < p.wa0)))::(ra 34 ((i 0)::(.unk::((.ptr 1 0 0 0)::((.ptr 2 0 0 0)::(ra 8 []))))))))))))))))))))),[⟨0,1,[[(eL tV p.b8)]],true,false,0⟩,⟨0,1,[[(eL tV p.e7)]],true,false,0⟩,⟨0,1,[[(b false)]],true,false,0⟩]⟩)],zc4⟩
theorem zc5:eb4.OkM:=Lo.okM [] (by kernel_rfl) .nil rfl (.cons (fun a H=>by kernel_rfl) .nil) fun p s=>(.of @la4 (fun F _ _ _ _ _=>by unfold la4;(repeat' apply o9 (f:=F))<;>rfl) (by kernel_rfl))
structure ha5 where
 is3:Int
 is9:Int
 k8:Int
 S6:Int
structure K4 where
 o0:Int
 b8:List V3
 e7:List V3
noncomputable def zc6 (p:ha5) (s:K4):St:=⟨(.unk::((.ptr 0 0 0 0)::(.unk::((i p.is3)::(ra 5 ((i p.is9)::((i p.k8)::(ra 5 ((i p.S6)::((i s.o0)::(ra 42 ((i 0)::(.unk::((.ptr 1 0 0 0)::((.ptr 2 0 0 0)::(ra 8 [])))))))))))))))),[⟨0,1,[[(eL tV s.b8)]],true,false,0⟩,⟨0,1,[[(eL tV s.e7)]],true,false,0⟩,⟨0,1,[[(b false)]],true,false,0⟩]⟩
noncomputable def la5 {α:Type} (k:K4→α) (e:Nat→α) (z:α) (p:ha5) (s:K4):α:=let t1:=(lp (N1 (⟨p.is3,s.o0,p.is9,p.k8,p.S6,s.o0,(↑(s.o0.toNat - 0):Int),(rt tV s.b8),(rt tV s.e7)⟩:aa3)) (⟨0⟩:H4));(sl (decide (s.o0 < p.S6)) (sl (inB s.o0 ((List.length s.b8)+1)) (sl ((cnE tV s.b8)&&((cnE tV s.e7)&&true)) (sl (Nat.beq t1.1 1) (e 1) (sl (Nat.beq t1.1 2) (k ⟨(W (s.o0+1)),(rt tV s.b8),(rt tV s.e7)⟩) z)) z) z) (e 2))
noncomputable def T8 (p:ha5) (s:K4):Stp K4:=la5 .next .exit .fail p s
noncomputable def eb5:Lo ha5 K4:=⟨En Qa5,0,Fd4,[1,0,1,4,4,1,4,4,1,1,0,4,1,1,4,4],[1,3,9,10,16,17,60,62,63],(.s .p (.s .p (.s (.b (.s .p (.s .p (.b (.u eb4.lsM))))) .p))),[⟨((.s (.o .unk))::((.s (.o (.ptr 0 0 0 0)))::((.s (.o .unk))::((.s (.o (.int .i64)))::(ru2 5 ((.s (.o (.int .i64)))::((.s (.o (.int .i64)))::(ru2 5 ((.s (.o (.int .i64)))::((.s (.o (.int .i64)))::(ru2 42 ((.s (.o (.lit .i64 0)))::((.s (.o .unk))::((.s (.o (.ptr 1 0 0 0)))::((.s (.o (.ptr 2 0 0 0)))::(ru2 8 [])))))))))))))))),[⟨0,1,true,(some [[(.c 3 (nL tV))]])⟩,⟨0,1,true,(some [[(.c 3 (nL tV))]])⟩,⟨0,1,true,(some [[(.o (.blit false))]])⟩],fun a H=>(⟨(toI (slT a 3)),(toI (slT a 9)),(toI (slT a 10)),(toI (slT a 16))⟩,⟨(toI (slT a 17)),(rL tV (slT (rwT (elT H 0) 0) 0)),(rL tV (slT (rwT (elT H 1) 0) 0))⟩)⟩],T8,[(none,fun p s=>let t1:=(lp (N1 (⟨p.is3,s.o0,p.is9,p.k8,p.S6,s.o0,(↑(s.o0.toNat - 0):Int),(rt tV s.b8),(rt tV s.e7)⟩:aa3)) (⟨0⟩:H4));let t2:=(G9 (gL tV (rt tV s.b8) t1.2.B4.toNat) (gL tV (rt tV s.b8) s.o0.toNat) (gL tV (rt tV s.b8) p.is3.toNat));let t3:=(p8 ⟨(rt tV (rt tV s.e7)),t2.1.n.x,t2.1.n.y,t2.1.n.z,t2.1.b⟩);⟨(.unk::((.ptr 0 0 0 0)::(.unk::((i p.is3)::((i s.o0)::((i t1.2.B4)::((.ptr 3 0 0 0)::((b t2.2)::(.unk::((i p.is9)::((i p.k8)::(ra 5 ((i p.S6)::((i s.o0)::(ra 5 ((i (↑(s.o0.toNat - 0):Int))::((i t1.2.B4)::((b (decide (t1.2.B4 < (↑(s.o0.toNat - 0):Int))))::((i t1.2.B4)::((.tup [(.agg [(i t2.1.n.x),(i t2.1.n.y),(i t2.1.n.z),(i t2.1.b)]),(b t2.2)])::((eL tV (rt tV s.b8))::((i t1.2.B4)::((.tptr [(i (gL tV (rt tV s.b8) t1.2.B4.toNat).x),(i (gL tV (rt tV s.b8) t1.2.B4.toNat).y),(i (gL tV (rt tV s.b8) t1.2.B4.toNat).z)])::((.agg [(i (gL tV (rt tV s.b8) t1.2.B4.toNat).x),(i (gL tV (rt tV s.b8) t1.2.B4.toNat).y),(i (gL tV (rt tV s.b8) t1.2.B4.toNat).z)])::((eL tV (rt tV s.b8))::((i s.o0)::((.tptr [(i (gL tV (rt tV s.b8) s.o0.toNat).x),(i (gL tV (rt tV s.b8) s.o0.toNat).y),(i (gL tV (rt tV s.b8) s.o0.toNat).z)])::((.agg [(i (gL tV (rt tV s.b8) s.o0.toNat).x),(i (gL tV (rt tV s.b8) s.o0.toNat).y),(i (gL tV (rt tV s.b8) s.o0.toNat).z)])::((eL tV (rt tV s.b8))::((i p.is3)::((.tptr [(i (gL tV (rt tV s.b8) p.is3.toNat).x),(i (gL tV (rt tV s.b8) p.is3.toNat).y),(i (gL tV (rt tV s.b8) p.is3.toNat).z)])::((.agg [(i (gL tV (rt tV s.b8) p.is3.toNat).x),(i (gL tV (rt tV s.b8) p.is3.toNat).y),(i (gL tV (rt tV s.b8) p.is3.toNat).z)])::((.tup [(.agg [(i t2.1.n.x),(i t2.1.n.y),(i t2.1.n.z),(i t2.1.b)]),(b t2.2)])::((.agg [(i t2.1.n.x),(i t2.1.n.y),(i t2.1.n.z),(i t2.1.b)])::((b t2.2)::((b t2.2)::((b true)::(.unk::((.agg [(i t2.1.n.x),(i t2.1.n.y),(i t2.1.n.z),(i t2.1.b)])::((b false)::((b true)::((b true)::(.unk::(u::(u::(u::(u::((b true)::((b true)::(ra 3 ((i 1)::(.unk::((.ptr 1 0 0 0)::((.ptr 2 0 0 0)::(ra 8 []))))))))))))))))))))))))))))))))))))))))))))))))))))))),[⟨0,1,[[(eL tV (rt tV s.b8))]],true,false,0⟩,⟨0,1,[[(eL tV (rt tV s.e7))]],true,false,0⟩,⟨0,1,[[(b (!t3.bs0))]],true,false,0⟩,⟨0,4,[[(i t2.1.n.x),(i t2.1.n.y),(i t2.1.n.z),(i t2.1.b)]],true,false,0⟩,⟨0,4,[[(i t2.1.n.x),(i t2.1.n.y),(i t2.1.n.z),(i t2.1.b)]],true,false,0⟩]⟩),(some 2,fun p s=>⟨(.unk::((.ptr 0 0 0 0)::(.unk::((i p.is3)::(ra 5 ((i p.is9)::((i p.k8)::(ra 5 ((i p.S6)::((i s.o0)::((b (decide (s.o0 < p.S6)))::(ra 41 ((i 0)::(.unk::((.ptr 1 0 0 0)::((.ptr 2 0 0 0)::(ra 8 []))))))))))))))))),[⟨0,1,[[(eL tV s.b8)]],true,false,0⟩,⟨0,1,[[(eL tV s.e7)]],true,false,0⟩,⟨0,1,[[(b false)]],true,false,0⟩]⟩)],zc6⟩
theorem zc7:eb5.OkM:=Lo.okM [eb4.prM] (by kernel_rfl) (.cons zc5 .nil) rfl (.cons (fun a H=>by kernel_rfl) .nil) fun p s=>(.of @la5 (fun F _ _ _ _ _=>by unfold la5;(repeat' apply o9 (f:=F))<;>rfl) (by kernel_rfl))
structure va0 where
 is9:Int
structure T0 where
 k8:Int
 b8:List V3
 e7:List V3
noncomputable def zc8 (p:va0) (s:T0):St:=⟨(.unk::((.ptr 0 0 0 0)::(ra 7 ((i p.is9)::((i s.k8)::(ra 49 ((i 0)::(.unk::((.ptr 1 0 0 0)::((.ptr 2 0 0 0)::(ra 8 []))))))))))),[⟨0,1,[[(eL tV s.b8)]],true,false,0⟩,⟨0,1,[[(eL tV s.e7)]],true,false,0⟩,⟨0,1,[[(b false)]],true,false,0⟩]⟩
noncomputable def la6 {α:Type} (k:T0→α) (e:Nat→α) (z:α) (p:va0) (s:T0):α:=let t1:=(lp (T8 (⟨s.k8,p.is9,s.k8,(↑(s.k8.toNat - 0):Int)⟩:ha5)) (⟨0,(rt tV s.b8),(rt tV s.e7)⟩:K4));(sl (decide (s.k8 < p.is9)) (sl (inB s.k8 ((List.length s.b8)+1)) (sl ((cnE tV s.b8)&&((cnE tV s.e7)&&true)) (sl (Nat.beq t1.1 1) (e 1) (sl (Nat.beq t1.1 2) (k ⟨(W (s.k8+1)),t1.2.b8,t1.2.e7⟩) z)) z) z) (e 2))
noncomputable def ja5 (p:va0) (s:T0):Stp T0:=la6 .next .exit .fail p s
noncomputable def eb6:Lo va0 T0:=⟨En Qa5,0,Fd4,[1,0,1,4,4,1,4,4],[1,9,10,60,62,63],(.s .p (.s .p (.s (.b (.s .p (.s .p (.b (.u eb5.lsM))))) .p))),[⟨((.s (.o .unk))::((.s (.o (.ptr 0 0 0 0)))::(ru2 7 ((.s (.o (.int .i64)))::((.s (.o (.int .i64)))::(ru2 49 ((.s (.o (.lit .i64 0)))::((.s (.o .unk))::((.s (.o (.ptr 1 0 0 0)))::((.s (.o (.ptr 2 0 0 0)))::(ru2 8 []))))))))))),[⟨0,1,true,(some [[(.c 3 (nL tV))]])⟩,⟨0,1,true,(some [[(.c 3 (nL tV))]])⟩,⟨0,1,true,(some [[(.o (.blit false))]])⟩],fun a H=>(⟨(toI (slT a 9))⟩,⟨(toI (slT a 10)),(rL tV (slT (rwT (elT H 0) 0) 0)),(rL tV (slT (rwT (elT H 1) 0) 0))⟩)⟩],ja5,[(none,fun p s=>let t1:=(lp (T8 (⟨s.k8,p.is9,s.k8,(↑(s.k8.toNat - 0):Int)⟩:ha5)) (⟨0,(rt tV s.b8),(rt tV s.e7)⟩:K4));let t2:=(lp (N1 (⟨s.k8,t1.2.o0,p.is9,s.k8,(↑(s.k8.toNat - 0):Int),t1.2.o0,(↑(t1.2.o0.toNat - 0):Int),(rt tV t1.2.b8),(rt tV t1.2.e7)⟩:aa3)) (⟨0⟩:H4));let t3:=(G9 (gL tV (rt tV t1.2.b8) t2.2.B4.toNat) (gL tV (rt tV t1.2.b8) t1.2.o0.toNat) (gL tV (rt tV t1.2.b8) s.k8.toNat));let t4:=(p8 ⟨(rt tV (rt tV t1.2.e7)),t3.1.n.x,t3.1.n.y,t3.1.n.z,t3.1.b⟩);⟨(.unk::((.ptr 0 0 0 0)::(.unk::((i s.k8)::((i t1.2.o0)::((i t2.2.B4)::((.ptr 3 0 0 0)::((b t3.2)::(.unk::((i p.is9)::((i s.k8)::(ra 5 ((i (↑(s.k8.toNat - 0):Int))::((i t1.2.o0)::(ra 5 ((i (↑(t1.2.o0.toNat - 0):Int))::((i t2.2.B4)::((b (decide (t2.2.B4 < (↑(t1.2.o0.toNat - 0):Int))))::((i t2.2.B4)::((.tup [(.agg [(i t3.1.n.x),(i t3.1.n.y),(i t3.1.n.z),(i t3.1.b)]),(b t3.2)])::((eL tV (rt tV t1.2.b8))::((i t2.2.B4)::((.tptr [(i (gL tV (rt tV t1.2.b8) t2.2.B4.toNat).x),(i (gL tV (rt tV t1.2.b8) t2.2.B4.toNat).y),(i (gL tV (rt tV t1.2.b8) t2.2.B4.toNat).z)])::((.agg [(i (gL tV (rt tV t1.2.b8) t2.2.B4.toNat).x),(i (gL tV (rt tV t1.2.b8) t2.2.B4.toNat).y),(i (gL tV (rt tV t1.2.b8) t2.2.B4.toNat).z)])::((eL tV (rt tV t1.2.b8))::((i t1.2.o0)::((.tptr [(i (gL tV (rt tV t1.2.b8) t1.2.o0.toNat).x),(i (gL tV (rt tV t1.2.b8) t1.2.o0.toNat).y),(i (gL tV (rt tV t1.2.b8) t1.2.o0.toNat).z)])::((.agg [(i (gL tV (rt tV t1.2.b8) t1.2.o0.toNat).x),(i (gL tV (rt tV t1.2.b8) t1.2.o0.toNat).y),(i (gL tV (rt tV t1.2.b8) t1.2.o0.toNat).z)])::((eL tV (rt tV t1.2.b8))::((i s.k8)::((.tptr [(i (gL tV (rt tV t1.2.b8) s.k8.toNat).x),(i (gL tV (rt tV t1.2.b8) s.k8.toNat).y),(i (gL tV (rt tV t1.2.b8) s.k8.toNat).z)])::((.agg [(i (gL tV (rt tV t1.2.b8) s.k8.toNat).x),(i (gL tV (rt tV t1.2.b8) s.k8.toNat).y),(i (gL tV (rt tV t1.2.b8) s.k8.toNat).z)])::((.tup [(.agg [(i t3.1.n.x),(i t3.1.n.y),(i t3.1.n.z),(i t3.1.b)]),(b t3.2)])::((.agg [(i t3.1.n.x),(i t3.1.n.y),(i t3.1.n.z),(i t3.1.b)])::((b t3.2)::((b t3.2)::((b true)::(.unk::((.agg [(i t3.1.n.x),(i t3.1.n.y),(i t3.1.n.z),(i t3.1.b)])::((b false)::((b true)::((b true)::(.unk::(u::(u::(u::(u::((b true)::((b true)::(ra 3 ((i 1)::(.unk::((.ptr 1 0 0 0)::((.ptr 2 0 0 0)::(ra 8 []))))))))))))))))))))))))))))))))))))))))))))))))))))))),[⟨0,1,[[(eL tV (rt tV t1.2.b8))]],true,false,0⟩,⟨0,1,[[(eL tV (rt tV t1.2.e7))]],true,false,0⟩,⟨0,1,[[(b (!t4.bs0))]],true,false,0⟩,⟨0,4,[[(i t3.1.n.x),(i t3.1.n.y),(i t3.1.n.z),(i t3.1.b)]],true,false,0⟩,⟨0,4,[[(i t3.1.n.x),(i t3.1.n.y),(i t3.1.n.z),(i t3.1.b)]],true,false,0⟩]⟩),(some 0,fun p s=>⟨(.unk::((.ptr 0 0 0 0)::(ra 7 ((i p.is9)::((i s.k8)::((b (decide (s.k8 < p.is9)))::(ra 48 ((i 0)::(.unk::((.ptr 1 0 0 0)::((.ptr 2 0 0 0)::(ra 8 [])))))))))))),[⟨0,1,[[(eL tV s.b8)]],true,false,0⟩,⟨0,1,[[(eL tV s.e7)]],true,false,0⟩,⟨0,1,[[(b false)]],true,false,0⟩]⟩)],zc8⟩
theorem zc9:eb6.OkM:=Lo.okM [eb5.prM] (by kernel_rfl) (.cons zc7 .nil) rfl (.cons (fun a H=>by kernel_rfl) .nil) fun p s=>(.of @la6 (fun F _ _ _ _ _=>by unfold la6;(repeat' apply o9 (f:=F))<;>rfl) (by kernel_rfl))
noncomputable def La1 (x:List V3):Option (b7×List b9):=let t1:=(lp (ja5 (⟨(↑(List.length x):Int)⟩:va0)) (⟨0,(rt tV x),(rt tV x)⟩:T0));let t2:=(lp (T8 (⟨t1.2.k8,(↑(List.length x):Int),t1.2.k8,(↑(t1.2.k8.toNat - 0):Int)⟩:ha5)) (⟨0,(rt tV t1.2.b8),(rt tV t1.2.e7)⟩:K4));let t3:=(lp (N1 (⟨t1.2.k8,t2.2.o0,(↑(List.length x):Int),t1.2.k8,(↑(t1.2.k8.toNat - 0):Int),t2.2.o0,(↑(t2.2.o0.toNat - 0):Int),(rt tV t2.2.b8),(rt tV t2.2.e7)⟩:aa3)) (⟨0⟩:H4));let t4:=(G9 (gL tV (rt tV t2.2.b8) t3.2.B4.toNat) (gL tV (rt tV t2.2.b8) t2.2.o0.toNat) (gL tV (rt tV t2.2.b8) t1.2.k8.toNat));let t5:=(p8 ⟨(rt tV (rt tV t2.2.e7)),t4.1.n.x,t4.1.n.y,t4.1.n.z,t4.1.b⟩);(sl ((cnE tV x)&&((cnE tV x)&&true)) (sl (Nat.beq t1.1 1) (some ((b (!t5.bs0)),[])) (sl (Nat.beq t1.1 2) (some ((b true),[])) none)) none)
noncomputable def cb0 (x:List V3):Bool:=U2 (one r1B) (La1 x)
noncomputable def cb1 (x:List V3):Bool:=okO (one r1B) (La1 x)
noncomputable def hc6:Sum:=Y1 (ta7 tV) (fun x=>.guard (cb1 x) (.ret ((one r1B).enc (cb0 x),[])))
theorem Zc7:i4 prog G 175 hc6:=Ua2 (bd bf2 Lc2) (one r1B) (o:=La1) fun x=>ld3 (.s .p (.s (.s .p (.b (.i (.s .p (.b (.u eb6.lsM)))))) .p)) [eb6.prM] (by kernel_rfl) (.cons zc9 .nil) (by kernel_rfl)
end Go.Ev.Ce
end
section
namespace Go.Ev.Ce
open Go Go.Ev Go.Ev.L Go.Proofs
set_option maxRecDepth 100000
structure wa8 where
 ca7:Int
 ca8:Int
 ca9:Int
 c9:Int
 c7:Int
 d7:Int
 j6:Int
noncomputable def Zb4:List (Nat×Sum):=[(88,Ca4)]
theorem Rb1:j9 prog G Zb4:=⟨Ia8,trivial⟩
structure wa9 where
 alt:Nat
 bs0:Bool
noncomputable def ea4 {α:Type} (kk:wa9→α) (x:wa8):α:=let t1:=(fa3 (⟨(⟨x.c9,x.c7,x.d7⟩:V3),x.j6⟩:Pln) (⟨x.ca7,x.ca8,x.ca9⟩:V3));(sl (fa4 (⟨(⟨x.c9,x.c7,x.d7⟩:V3),x.j6⟩:Pln) (⟨x.ca7,x.ca8,x.ca9⟩:V3)) (kk ⟨1,(decide (t1 > 0))⟩) (kk ⟨0,false⟩))
noncomputable def xa0 (x:wa8):wa9:=ea4 (fun r=>r) x
noncomputable def Ga9 (x:wa8) (r:wa9):DT (b7×List b9):=(.ite (Nat.beq r.alt 1) (.ret ((b r.bs0),[⟨0,4,[[(i x.c9),(i x.c7),(i x.d7),(i x.j6)]],true,false,0⟩])) .fail)
theorem lc5 {α β:Type} (F:α→β) (kk:wa9→α) (x:wa8):F (ea4 kk x)=ea4 (fun r=>F (kk r)) x:=by unfold ea4;(repeat' apply o9 (f:=F))<;>rfl
noncomputable def qb3:Sum:=Ua3 ⟨[(.agg [(.o (.int .i64)),(.o (.int .i64)),(.o (.int .i64))]),(.s (.o (.ptr 0 0 0 0)))],[⟨0,4,true,(some [[(.o (.int .i64)),(.o (.int .i64)),(.o (.int .i64)),(.o (.int .i64))]])⟩],fun a H=>(⟨(toI (slT (cellsOf (slT a 0)) 0)),(toI (slT (cellsOf (slT a 0)) 1)),(toI (slT (cellsOf (slT a 0)) 2)),(toI (slT (rwT (elT H 0) 0) 0)),(toI (slT (rwT (elT H 0) 0) 1)),(toI (slT (rwT (elT H 0) 0) 2)),(toI (slT (rwT (elT H 0) 0) 3))⟩,())⟩ (fun x=>Ga9 x (xa0 x))
theorem Zb5:i4 prog G 178 qb3:=P8 (enc:=fun x=>⟨[(.agg [(i x.ca7),(i x.ca8),(i x.ca9)]),(.ptr 0 0 0 0)],[⟨0,4,[[(i x.c9),(i x.c7),(i x.d7),(i x.j6)]],true,false,0⟩]⟩) (fun a H=>by kernel_rfl) (bd bf4 Rb1) fun x=>A0 (Eq.trans (b:=ea4 (fun r=>(Ga9 x r).run) x) (by kernel_rfl) (lc5 (fun r=>(Ga9 x r).run) (fun r=>r) x).symm)
structure V1 where
 f9:List V3
 c9:Int
 c7:Int
 d7:Int
 j6:Int
noncomputable def va1:List (Nat×Sum):=[(178,qb3)]
theorem Za8:j9 prog G va1:=⟨Zb5,trivial⟩
structure I6 where
 f9:List V3
 is7:Int
 c9:Int
 c7:Int
 d7:Int
 j6:Int
structure o6 where
 is8:Int
noncomputable def Wa4 (p:I6) (s:o6):St:=⟨((eL tV p.f9)::((.fn 178 [(.ptr 0 0 0 0)])::(ra 5 ((i p.is7)::((i s.is8)::(ra 10 [])))))),[⟨0,4,[[(i p.c9),(i p.c7),(i p.d7),(i p.j6)]],true,false,0⟩]⟩
noncomputable def D9 {α:Type} (k:o6→α) (e:Nat→α) (z:α) (p:I6) (s:o6):α:=let t1:=(xa0 ⟨(gL tV p.f9 s.is8.toNat).x,(gL tV p.f9 s.is8.toNat).y,(gL tV p.f9 s.is8.toNat).z,p.c9,p.c7,p.d7,p.j6⟩);(sl (decide (s.is8 < p.is7)) (sl (inB s.is8 (List.length p.f9)) (sl (Nat.beq t1.alt 1) (sl t1.bs0 (e 1) (k ⟨(W (s.is8+1))⟩)) z) z) (e 2))
noncomputable def F7 (p:I6) (s:o6):Stp o6:=D9 .next .exit .fail p s
noncomputable def da4:Lo I6 o6:=⟨En va1,1,ld2,[1,0,1,4,4],[0,1,7,8],.p,[⟨((.s (.c 3 (nL tV)))::((.fn 178 [(.o (.ptr 0 0 0 0))])::(ru2 5 ((.s (.o (.int .i64)))::((.s (.o (.int .i64)))::(ru2 10 [])))))),[⟨0,4,true,(some [[(.o (.int .i64)),(.o (.int .i64)),(.o (.int .i64)),(.o (.int .i64))]])⟩],fun a H=>(⟨(rL tV (slT a 0)),(toI (slT a 7)),(toI (slT (rwT (elT H 0) 0) 0)),(toI (slT (rwT (elT H 0) 0) 1)),(toI (slT (rwT (elT H 0) 0) 2)),(toI (slT (rwT (elT H 0) 0) 3))⟩,⟨(toI (slT a 8))⟩)⟩],F7,[(none,fun p s=>⟨[(i s.is8)],[⟨0,4,[[(i p.c9),(i p.c7),(i p.d7),(i p.j6)]],true,false,0⟩]⟩),(some 0,fun p s=>⟨((eL tV p.f9)::((.fn 178 [(.ptr 0 0 0 0)])::(ra 5 ((i p.is7)::((i s.is8)::((b (decide (s.is8 < p.is7)))::(ra 9 []))))))),[⟨0,4,[[(i p.c9),(i p.c7),(i p.d7),(i p.j6)]],true,false,0⟩]⟩)],Wa4⟩
theorem Wa5:da4.Ok:=Lo.ok [] (by kernel_rfl) .nil rfl (.cons (fun a H=>by kernel_rfl) .nil) fun p s=>(.of @D9 (fun F _ _ _ _ _=>by unfold D9;(repeat' apply o9 (f:=F))<;>rfl) (by kernel_rfl))
structure V2 where
 alt:Nat
 is0:Int
noncomputable def E7 {α:Type} (kk:V2→α) (x:V1):α:=let t1:=(lp (F7 (⟨(rt tV x.f9),(↑(List.length x.f9):Int),x.c9,x.c7,x.d7,x.j6⟩:I6)) (⟨0⟩:o6));(sl ((cnE tV x.f9)&&true) (sl (Nat.beq t1.1 1) (kk ⟨1,t1.2.is8⟩) (sl (Nat.beq t1.1 2) (kk ⟨1,(-1)⟩) (kk ⟨0,0⟩))) (kk ⟨0,0⟩))
noncomputable def V4 (x:V1):V2:=E7 (fun r=>r) x
noncomputable def ha6 (x:V1) (r:V2):DT (b7×List b9):=(.ite (Nat.beq r.alt 1) (.ret ((i r.is0),[⟨0,4,[[(i x.c9),(i x.c7),(i x.d7),(i x.j6)]],true,false,0⟩])) .fail)
theorem ib3 {α β:Type} (F:α→β) (kk:V2→α) (x:V1):F (E7 kk x)=E7 (fun r=>F (kk r)) x:=by unfold E7;(repeat' apply o9 (f:=F))<;>rfl
noncomputable def za7:Sum:=Ua3 ⟨[(.s (.c 3 (nL tV))),(.fn 178 [(.o (.ptr 0 0 0 0))])],[⟨0,4,true,(some [[(.o (.int .i64)),(.o (.int .i64)),(.o (.int .i64)),(.o (.int .i64))]])⟩],fun a H=>(⟨(rL tV (slT a 0)),(toI (slT (rwT (elT H 0) 0) 0)),(toI (slT (rwT (elT H 0) 0) 1)),(toI (slT (rwT (elT H 0) 0) 2)),(toI (slT (rwT (elT H 0) 0) 3))⟩,())⟩ (fun x=>ha6 x (V4 x))
theorem eb7:i4 prog G 144 za7:=P8 (enc:=fun x=>⟨[(eL tV x.f9),(.fn 178 [(.ptr 0 0 0 0)])],[⟨0,4,[[(i x.c9),(i x.c7),(i x.d7),(i x.j6)]],true,false,0⟩]⟩) (fun a H=>by kernel_rfl) (bd qe5 Za8) fun x=>Pa9 (.s .p (.s (.s .p (.b (.u da4.ls))) .p)) [da4.pr] (by kernel_rfl) (.cons Wa5 .nil) (Eq.trans (b:=E7 (fun r=>(ha6 x r).run) x) (by kernel_rfl) (ib3 (fun r=>(ha6 x r).run) (fun r=>r) x).symm)
structure N2 where
 f9:List V3
 c9:Int
 c7:Int
 d7:Int
 j6:Int
noncomputable def Qa6:List (Nat×Sum):=[(144,za7)]
theorem Ma9:j9 prog G Qa6:=⟨eb7,trivial⟩
structure N4 where
 alt:Nat
 bs0:Bool
noncomputable def A6 {α:Type} (kk:N4→α) (x:N2):α:=let t1:=(V4 ⟨(rt tV x.f9),x.c9,x.c7,x.d7,x.j6⟩);(sl ((cnE tV x.f9)&&true) (sl (Nat.beq t1.alt 1) (kk ⟨1,(decide (t1.is0≥0))⟩) (kk ⟨0,false⟩)) (kk ⟨0,false⟩))
noncomputable def N5 (x:N2):N4:=A6 (fun r=>r) x
noncomputable def Z3 (x:N2) (r:N4):DT (b7×List b9):=(.ite (Nat.beq r.alt 1) (.ret ((b r.bs0),[⟨0,4,[[(i x.c9),(i x.c7),(i x.d7),(i x.j6)]],true,false,0⟩])) .fail)
theorem Wa6 {α β:Type} (F:α→β) (kk:N4→α) (x:N2):F (A6 kk x)=A6 (fun r=>F (kk r)) x:=by unfold A6;(repeat' apply o9 (f:=F))<;>rfl
noncomputable def qa1:Sum:=Ua3 ⟨[(.s (.c 3 (nL tV))),(.fn 178 [(.o (.ptr 0 0 0 0))])],[⟨0,4,true,(some [[(.o (.int .i64)),(.o (.int .i64)),(.o (.int .i64)),(.o (.int .i64))]])⟩],fun a H=>(⟨(rL tV (slT a 0)),(toI (slT (rwT (elT H 0) 0) 0)),(toI (slT (rwT (elT H 0) 0) 1)),(toI (slT (rwT (elT H 0) 0) 2)),(toI (slT (rwT (elT H 0) 0) 3))⟩,())⟩ (fun x=>Z3 x (N5 x))
theorem Qa7:i4 prog G 174 qa1:=P8 (enc:=fun x=>⟨[(eL tV x.f9),(.fn 178 [(.ptr 0 0 0 0)])],[⟨0,4,[[(i x.c9),(i x.c7),(i x.d7),(i x.j6)]],true,false,0⟩]⟩) (fun a H=>by kernel_rfl) (bd Ge2 Ma9) fun x=>A0 (Eq.trans (b:=A6 (fun r=>(Z3 x r).run) x) (by kernel_rfl) (Wa6 (fun r=>(Z3 x r).run) (fun r=>r) x).symm)
noncomputable def Ac0:List (Nat×Sum):=[(174,qa1)]
theorem lc6:j9 prog G Ac0:=⟨Qa7,trivial⟩
noncomputable def va2 (x:List V3) (y:Pln):Option (b7×List b9):=let t1:=(N5 ⟨(rt tV x),y.n.x,y.n.y,y.n.z,y.b⟩);(sl ((cnE tV x)&&true) (sl (Nat.beq t1.alt 1) (some ((b t1.bs0),[])) none) none)
noncomputable def aa4 (x:List V3) (y:Pln):Bool:=U2 (one r1B) (va2 x y)
noncomputable def H5 (x:List V3) (y:Pln):Bool:=okO (one r1B) (va2 x y)
noncomputable def Fb7:Sum:=na9 (ta7 tV) (S9 tP) (fun x y=>.guard (H5 x y) (.ret ((one r1B).enc (aa4 x y),[])))
theorem Ac1:i4 prog G 120 Fb7:=mb5 (bd Ze2 lc6) (one r1B) (o:=va2) fun x y=>A0 (by kernel_rfl)
end Go.Ev.Ce
end
section
namespace Go.Ev.Ce
open Go Go.Ev Go.Ev.L Go.Proofs
set_option maxRecDepth 100000
noncomputable def lc7:List (Nat×Sum):=[(85,Va2)]
theorem Zb6:j9 prog G lc7:=⟨bb9,trivial⟩
noncomputable def qa2 (x:V3):Option (b7×List b9):=let t1:=(ja9 x);(sl (ka0 x) (some ((b (!t1)),[])) none)
noncomputable def Ca5 (x:V3):Bool:=U2 (one r1B) (qa2 x)
noncomputable def Ca6 (x:V3):Bool:=okO (one r1B) (qa2 x)
noncomputable def wb7:Sum:=Y1 (S9 tV) (fun x=>.guard (Ca6 x) (.ret ((one r1B).enc (Ca5 x),[])))
theorem lc8:i4 prog G 173 wb7:=Ua2 (bd bf1 Zb6) (one r1B) (o:=qa2) fun x=>A0 (by kernel_rfl)
structure V5 where
 f9:List V3
noncomputable def va3:List (Nat×Sum):=[(173,wb7)]
theorem Za9:j9 prog G va3:=⟨lc8,trivial⟩
structure I7 where
 f9:List V3
 is7:Int
structure o7 where
 is8:Int
noncomputable def Wa7 (p:I7) (s:o7):St:=⟨((eL tV p.f9)::((.fn 173 [])::(ra 5 ((i p.is7)::((i s.is8)::(ra 10 [])))))),[]⟩
noncomputable def E0 {α:Type} (k:o7→α) (e:Nat→α) (z:α) (p:I7) (s:o7):α:=let t1:=(Ca5 (gL tV p.f9 s.is8.toNat));(sl (decide (s.is8 < p.is7)) (sl (inB s.is8 (List.length p.f9)) (sl (Ca6 (gL tV p.f9 s.is8.toNat)) (sl t1 (e 1) (k ⟨(W (s.is8+1))⟩)) z) z) (e 2))
noncomputable def F8 (p:I7) (s:o7):Stp o7:=E0 .next .exit .fail p s
noncomputable def da5:Lo I7 o7:=⟨En va3,0,ld2,[1,0,1,4,4],[0,1,7,8],.p,[⟨((.s (.c 3 (nL tV)))::((.s (.o (.fn 173)))::(ru2 5 ((.s (.o (.int .i64)))::((.s (.o (.int .i64)))::(ru2 10 [])))))),[],fun a H=>(⟨(rL tV (slT a 0)),(toI (slT a 7))⟩,⟨(toI (slT a 8))⟩)⟩],F8,[(none,fun p s=>⟨[(i s.is8)],[]⟩),(some 0,fun p s=>⟨((eL tV p.f9)::((.fn 173 [])::(ra 5 ((i p.is7)::((i s.is8)::((b (decide (s.is8 < p.is7)))::(ra 9 []))))))),[]⟩)],Wa7⟩
theorem Wa8:da5.Ok:=Lo.ok [] (by kernel_rfl) .nil rfl (.cons (fun a H=>by kernel_rfl) .nil) fun p s=>(.of @E0 (fun F _ _ _ _ _=>by unfold E0;(repeat' apply o9 (f:=F))<;>rfl) (by kernel_rfl))
structure V6 where
 alt:Nat
 is0:Int
noncomputable def E8 {α:Type} (kk:V6→α) (x:V5):α:=let t1:=(lp (F8 (⟨(rt tV x.f9),(↑(List.length x.f9):Int)⟩:I7)) (⟨0⟩:o7));(sl ((cnE tV x.f9)&&true) (sl (Nat.beq t1.1 1) (kk ⟨1,t1.2.is8⟩) (sl (Nat.beq t1.1 2) (kk ⟨1,(-1)⟩) (kk ⟨0,0⟩))) (kk ⟨0,0⟩))
noncomputable def V7 (x:V5):V6:=E8 (fun r=>r) x
noncomputable def ha7 (x:V5) (r:V6):DT (b7×List b9):=(.ite (Nat.beq r.alt 1) (.ret ((i r.is0),[])) .fail)
theorem ib4 {α β:Type} (F:α→β) (kk:V6→α) (x:V5):F (E8 kk x)=E8 (fun r=>F (kk r)) x:=by unfold E8;(repeat' apply o9 (f:=F))<;>rfl
noncomputable def za8:Sum:=Ua3 ⟨[(.s (.c 3 (nL tV))),(.s (.o (.fn 173)))],[],fun a H=>(⟨(rL tV (slT a 0))⟩,())⟩ (fun x=>ha7 x (V7 x))
theorem eb8:i4 prog G 144 za8:=P8 (enc:=fun x=>⟨[(eL tV x.f9),(.fn 173 [])],[]⟩) (fun a H=>by kernel_rfl) (bd qe5 Za9) fun x=>Pa9 (.s .p (.s (.s .p (.b (.u da5.ls))) .p)) [da5.pr] (by kernel_rfl) (.cons Wa8 .nil) (Eq.trans (b:=E8 (fun r=>(ha7 x r).run) x) (by kernel_rfl) (ib4 (fun r=>(ha7 x r).run) (fun r=>r) x).symm)
structure N6 where
 f9:List V3
noncomputable def Qa8:List (Nat×Sum):=[(144,za8)]
theorem Na0:j9 prog G Qa8:=⟨eb8,trivial⟩
structure N7 where
 alt:Nat
 bs0:Bool
noncomputable def A7 {α:Type} (kk:N7→α) (x:N6):α:=let t1:=(V7 ⟨(rt tV x.f9)⟩);(sl ((cnE tV x.f9)&&true) (sl (Nat.beq t1.alt 1) (kk ⟨1,(decide (t1.is0≥0))⟩) (kk ⟨0,false⟩)) (kk ⟨0,false⟩))
noncomputable def N8 (x:N6):N7:=A7 (fun r=>r) x
noncomputable def Z4 (x:N6) (r:N7):DT (b7×List b9):=(.ite (Nat.beq r.alt 1) (.ret ((b r.bs0),[])) .fail)
theorem Wa9 {α β:Type} (F:α→β) (kk:N7→α) (x:N6):F (A7 kk x)=A7 (fun r=>F (kk r)) x:=by unfold A7;(repeat' apply o9 (f:=F))<;>rfl
noncomputable def qa3:Sum:=Ua3 ⟨[(.s (.c 3 (nL tV))),(.s (.o (.fn 173)))],[],fun a H=>(⟨(rL tV (slT a 0))⟩,())⟩ (fun x=>Z4 x (N8 x))
theorem Qa9:i4 prog G 174 qa3:=P8 (enc:=fun x=>⟨[(eL tV x.f9),(.fn 173 [])],[]⟩) (fun a H=>by kernel_rfl) (bd Ge2 Na0) fun x=>A0 (Eq.trans (b:=A7 (fun r=>(Z4 x r).run) x) (by kernel_rfl) (Wa9 (fun r=>(Z4 x r).run) (fun r=>r) x).symm)
noncomputable def Lc3:List (Nat×Sum):=[(174,qa3),(175,hc6)]
theorem Ac2:j9 prog G Lc3:=⟨Qa9,Zc7,trivial⟩
noncomputable def Ca7 (x:List V3):Option (b7×List b9):=let t1:=(N8 ⟨(rt tV x)⟩);let t2:=(cb0 (rt tV x));(sl (decide ((↑(List.length x):Int) > 48)) (some ((i 2),[])) (sl ((cnE tV x)&&true) (sl (Nat.beq t1.alt 1) (sl t1.bs0 (some ((i 3),[])) (sl (okE tV x) (sl (cb1 (rt tV x)) (sl t2 (some ((i 11),[])) (some ((i 0),[]))) none) none)) none) none))
noncomputable def Ca8 (x:List V3):Int:=U2 (one r1I) (Ca7 x)
noncomputable def Ca9 (x:List V3):Bool:=okO (one r1I) (Ca7 x)
noncomputable def nb9:Sum:=Y1 (ta7 tV) (fun x=>.guard (Ca9 x) (.ret ((one r1I).enc (Ca8 x),[])))
theorem Fb8:i4 prog G 118 nb9:=Ua2 (bd Ze0 Ac2) (one r1I) (o:=Ca7) fun x=>A0 (by kernel_rfl)
end Go.Ev.Ce
end
section
namespace Go.Ev.Ce
open Go Go.Ev Go.Ev.L Go.Proofs
set_option maxRecDepth 100000
noncomputable def Zb7:List (Nat×Sum):=[]
theorem Rb2:j9 prog G Zb7:=trivial
noncomputable def xa1 (x:Int):Bool:=(x != x)
noncomputable def qb4:Sum:=Y1 cI (fun x=>.ret ((one r1B).enc (xa1 x),[]))
theorem Zb8:i4 prog G 220 qb4:=Bb0 (bd cf3 Rb2) fun x=>A0 (by kernel_rfl)
noncomputable def Kb5:List (Nat×Sum):=[(220,qb4)]
theorem Db1:j9 prog G Kb5:=⟨Zb8,trivial⟩
noncomputable def fa5 (x:Int) (y:Int):Option (b7×List b9):=let t1:=(xa1 x);let t2:=(xa1 y);(sl t1 (sl t2 (some ((i 0),[])) (some ((i (-1)),[]))) (sl t2 (some ((i 1),[])) (sl (decide (x < y)) (some ((i (-1)),[])) (sl (decide (x > y)) (some ((i 1),[])) (some ((i 0),[]))))))
noncomputable def V8 (x:Int) (y:Int):Int:=U2 (one r1I) (fa5 x y)
noncomputable def V9 (x:Int) (y:Int):Bool:=okO (one r1I) (fa5 x y)
noncomputable def cb2:Sum:=na9 cI cI (fun x y=>.guard (V9 x y) (.ret ((one r1I).enc (V8 x y),[])))
theorem Kb6:i4 prog G 189 cb2:=mb5 (bd bf9 Db1) (one r1I) (o:=fa5) fun x y=>A0 (by kernel_rfl)
noncomputable def Fb9:List (Nat×Sum):=[]
theorem Ac3:j9 prog G Fb9:=trivial
structure qa4 where
 Fa0:List Int
 is7:Int
structure K5 where
 is8:Int
noncomputable def lc9 (p:qa4) (s:K5):St:=⟨(ra 3 ((i 0)::(.unk::(.unk::((eL tI p.Fa0)::((i p.is7)::((i s.is8)::(ra 9 [])))))))),[]⟩
noncomputable def Ha0 {α:Type} (k:K5→α) (e:Nat→α) (z:α) (p:qa4) (s:K5):α:=(sl (decide (s.is8 < p.is7)) (sl (inB s.is8 (List.length p.Fa0)) (sl ((gL tI p.Fa0 s.is8.toNat) != 0) (e 1) (k ⟨(W (s.is8+1))⟩)) z) (e 2))
noncomputable def X4 (p:qa4) (s:K5):Stp K5:=Ha0 .next .exit .fail p s
noncomputable def Xa0:Lo qa4 K5:=⟨En Fb9,0,Ae3,[1,1,0,1,4,4],[3,6,7,8],.p,[⟨(ru2 3 ((.s (.o (.lit .i64 0)))::((.s (.o .unk))::((.s (.o .unk))::((.s (.c 1 (nL tI)))::((.s (.o (.int .i64)))::((.s (.o (.int .i64)))::(ru2 9 [])))))))),[],fun a H=>(⟨(rL tI (slT a 6)),(toI (slT a 7))⟩,⟨(toI (slT a 8))⟩)⟩],X4,[(none,fun p s=>⟨[(i (gL tI p.Fa0 s.is8.toNat))],[]⟩),(some 0,fun p s=>⟨(ra 3 ((i 0)::(.unk::(.unk::((eL tI p.Fa0)::((i p.is7)::((i s.is8)::((b (decide (s.is8 < p.is7)))::(ra 8 []))))))))),[]⟩)],lc9⟩
theorem mc0:Xa0.Ok:=Lo.ok [] (by kernel_rfl) .nil rfl (.cons (fun a H=>by kernel_rfl) .nil) fun p s=>(.of @Ha0 (fun F _ _ _ _ _=>by unfold Ha0;(repeat' apply o9 (f:=F))<;>rfl) (by kernel_rfl))
noncomputable def Da0 (x:List Int):Option (b7×List b9):=let t1:=(lp (X4 (⟨(rt tI x),(↑(List.length x):Int)⟩:qa4)) (⟨0⟩:K5));(sl ((cnE tI x)&&true) (sl (Nat.beq t1.1 1) (some ((i (gL tI (rt tI x) t1.2.is8.toNat)),[])) (sl (Nat.beq t1.1 2) (some ((i 0),[])) none)) none)
noncomputable def Ra0 (x:List Int):Int:=U2 (one r1I) (Da0 x)
noncomputable def Ra1 (x:List Int):Bool:=okO (one r1I) (Da0 x)
noncomputable def Rb3:Sum:=Y1 (ta7 tI) (fun x=>.guard (Ra1 x) (.ret ((one r1I).enc (Ra0 x),[])))
theorem Lc4:i4 prog G 188 Rb3:=Ua2 (bd bf8 Ac3) (one r1I) (o:=Da0) fun x=>Pa9 (.s .p (.s .p (.s (.s .p (.b (.u Xa0.ls))) .p))) [Xa0.pr] (by kernel_rfl) (.cons mc0 .nil) (by kernel_rfl)
noncomputable def mc1:List (Nat×Sum):=[(189,cb2),(188,Rb3)]
theorem Zb9:j9 prog G mc1:=⟨Kb6,Lc4,trivial⟩
noncomputable def qa5 (x:V3) (y:V3):Option (b7×List b9):=let t1:=(V8 x.x y.x);let t2:=(V8 x.y y.y);let t3:=(V8 x.z y.z);let t4:=(Ra0 [t1,t2,t3]);(sl (V9 x.x y.x) (sl (V9 x.y y.y) (sl (V9 x.z y.z) (sl (Ra1 [t1,t2,t3]) (some ((i t4),[])) none) none) none) none)
noncomputable def Da1 (x:V3) (y:V3):Int:=U2 (one r1I) (qa5 x y)
noncomputable def Da2 (x:V3) (y:V3):Bool:=okO (one r1I) (qa5 x y)
noncomputable def Xa1:Sum:=na9 (S9 tV) (S9 tV) (fun x y=>.guard (Da2 x y) (.ret ((one r1I).enc (Da1 x y),[])))
theorem mc2:i4 prog G 147 Xa1:=mb5 (bd af5 Zb9) (one r1I) (o:=qa5) fun x y=>A0 (by kernel_rfl)
end Go.Ev.Ce
end
namespace Go.Ev.L
open Go Go.Ev
theorem re4 (n:Int):W n=(n+9223372036854775808) % 18446744073709551616 - 9223372036854775808:=IntKind.wrap_i64 n
theorem U3 {n:Int} (h1:-9223372036854775808≤n) (h2:n≤9223372036854775807):W n=n:=by rw[re4];omega
theorem ae0 (n:Int):∃ k,W n=n+18446744073709551616*k:=⟨-((n+9223372036854775808) / 18446744073709551616),by rw[re4];omega⟩
theorem ac0 (n k:Int):W (n+18446744073709551616*k)=W n:=by rw[re4,re4];omega
theorem Kb7 (a b:Int):W (W a+b)=W (a+b):=by
 obtain⟨k,hk⟩:=ae0 a
 rw[hk,show a+18446744073709551616*k+b=a+b+18446744073709551616*k by omega,ac0]
theorem ac4 (a b:Int):W (a+W b)=W (a+b):=by rw[Int.add_comm,Kb7,Int.add_comm]
theorem zd2 (a b:Int):W (W a - b)=W (a - b):=by
 obtain⟨k,hk⟩:=ae0 a
 rw[hk,show a+18446744073709551616*k - b=a - b+18446744073709551616*k by omega,ac0]
theorem ae1 (a b:Int):W (a - W b)=W (a - b):=by
 obtain⟨k,hk⟩:=ae0 b
 rw[hk,show a - (b+18446744073709551616*k)=a - b+18446744073709551616*(-k) by omega,ac0]
theorem y7 {j n:Nat} (h:j < n) (hn:n≤4611686018427387904):W ((j:Int)+1)=((j+1:Nat):Int):=by
 rw[U3 (by omega) (by omega)];omega
theorem Ac4 {j n:Nat} (h:j < n):decide ((j:Int) < (n:Int))=true:=decide_eq_true (by omega)
theorem Rb4 {j n:Nat} (h:¬ j < n):decide ((j:Int) < (n:Int))=false:=decide_eq_false (by omega)
theorem i5 {j n:Nat} (h:j < n):inB (j:Int) n=true:=by
 show Nat.blt j n=true
 rw[Nat.blt_eq];exact h
theorem re5 (m:Int) (n:Nat):inB m n=decide (0≤m∧m < n):=by
 unfold inB
 cases m with
 | ofNat k =>
  rw[Bool.eq_iff_iff,decide_eq_true_eq]
  show Nat.blt k n=true↔_
  rw[Nat.blt_eq]
  constructor
  ·intro h;exact⟨Int.natCast_nonneg k,Int.ofNat_lt.2 h⟩
  ·intro h;exact Int.ofNat_lt.1 h.2
 | negSucc k=>exact (decide_eq_false (fun h=>by omega)).symm
theorem bt {c:Bool} (h:c=true) {α:Type} (t e:α):sl c t e=t:=by rw[h];rfl
theorem bf {c:Bool} (h:c=false) {α:Type} (t e:α):sl c t e=e:=by rw[h];rfl
theorem re6 {n:Nat} (h:n≤1000000000000):Nat.ble (n*32) room=true:=by
 rw[Nat.ble_eq];unfold room;omega
theorem ae2 {σ : Type} {step : σ → Stp σ} {I : Nat → σ → Prop} {Q : Nat → σ → Prop} (h : ∀ m s, I m s → (∃ t, step s = .exit t ∧ Q t s) ∨ ∃ s' m', m = m' + 1 ∧ step s = .next s' ∧ I m' s') :
  ∀ (m n:Nat) (s:σ),m≤n→I m s→Q (lp0 step n s).1 (lp0 step n s).2
 | m,n,s,hn,hi=>by
  rcases h m s hi with⟨t,h1,h2⟩ | ⟨s',m',rfl,h1,h2⟩
  ·rw[wc0 h1]
   exact h2
  ·cases n with
   | zero=>omega
   | succ n =>
    rw[id1 h1]
    exact ae2 h m' n s' (by omega) h2
theorem ac5 {σ : Type} {step : σ → Stp σ} {I : Nat → σ → Prop} {Q : Nat → σ → Prop} (h : ∀ m s, I m s → (∃ t, step s = .exit t ∧ Q t s) ∨ ∃ s' m', m = m' + 1 ∧ step s = .next s' ∧ I m' s')
  (m:Nat) (s:σ) (hm:m≤18446744073709551615) (hi:I m s):Q (lp step s).1 (lp step s).2:=by
 rw[Vd2]
 exact ae2 h m rounds s (by unfold rounds;omega) hi
section
variable {σ τ α:Type} {step:σ→Stp σ}
theorem re7 {mk : Nat → τ → σ} {f : τ → α → τ} {fin : Nat} (t : Ty α) (l : List α) (I : Nat → τ → Prop) (hl : l.length ≤ 1000000000)
  (h:∀ j a,j < l.length→I j a→step (mk j a)=.next (mk (j+1) (f a (gL t l j)))∧I (j+1) (f a (gL t l j)))
  (hf:∀ a,I l.length a→step (mk l.length a)=.exit fin) (j0:Nat) (hj:j0≤l.length) (a:τ) (hi:I j0 a) :
  lp step (mk j0 a)=(fin,mk l.length ((l.drop j0).foldl f a))∧I l.length ((l.drop j0).foldl f a):=by
 have key:=ac5 (step:=step) (I:=fun m s=>∃ j b,m=l.length - j∧j≤l.length∧s=mk j b∧I j b∧(l.drop j).foldl f b=(l.drop j0).foldl f a)
  (Q:=fun u s=>u=fin∧s=mk l.length ((l.drop j0).foldl f a)∧I l.length ((l.drop j0).foldl f a)) (fun m s ⟨j,b,hm,hj,hs,hb,he⟩=>by
   subst hs
   by_cases hlt:j < l.length
   ·obtain⟨h1,h2⟩:=h j b hlt hb
    refine .inr ⟨_,l.length - (j+1),by omega,h1,j+1,_,rfl,by omega,rfl,h2,?_⟩
    rw[← he,List.drop_eq_getElem_cons hlt,List.foldl_cons]
    simp[gL,List.getD_eq_getElem?_getD,List.getElem?_eq_getElem hlt]
   ·have:j=l.length:=by omega
    subst this
    have he:b=(l.drop j0).foldl f a:=by rw[← he];simp
    subst he
    exact .inl ⟨fin,hf _ hb,rfl,rfl,hb⟩) (l.length - j0) (mk j0 a) (by omega) ⟨j0,a,rfl,hj,rfl,hi,rfl⟩
 exact⟨by rw[← key.2.1,← key.1],key.2.2⟩
theorem ac6 {mk : Nat → σ} {c : α → Bool} {u fin : Nat} (t : Ty α) (l : List α) (hl : l.length ≤ 1000000000)
  (h:∀ j,j < l.length→step (mk j)=sl (c (gL t l j)) (.exit u) (.next (mk (j+1)))) (hf:step (mk l.length)=.exit fin) (j0:Nat) (hj:j0≤l.length) :
  (lp step (mk j0)).1=if (l.drop j0).any c then u else fin :=
 ac5 (step:=step) (I:=fun m s=>∃ j,m=l.length - j∧j≤l.length∧s=mk j∧(l.drop j).any c=(l.drop j0).any c)
  (Q:=fun v _=>v=if (l.drop j0).any c then u else fin) (fun m s ⟨j,hm,hj,hs,he⟩=>by
   subst hs
   by_cases hlt:j < l.length
   ·have h1:=h j hlt
    have e:gL t l j=l[j]:=by simp[gL,List.getD_eq_getElem?_getD,List.getElem?_eq_getElem hlt]
    have e2:(l.drop j).any c=(c l[j]||(l.drop (j+1)).any c):=by rw[List.drop_eq_getElem_cons hlt,List.any_cons]
    rw[e] at h1
    cases hc:c l[j] with
    | true =>
     rw[hc] at h1
     refine .inl ⟨u,h1,?_⟩
     rw[← he,e2,hc];rfl
    | false =>
     rw[hc] at h1
     refine .inr ⟨_,l.length - (j+1),by omega,h1,j+1,rfl,by omega,rfl,?_⟩
     rw[← he,e2,hc];rfl
   ·have:j=l.length:=by omega
    subst this
    refine .inl ⟨fin,hf,?_⟩
    rw[← he];simp) (l.length - j0) (mk j0) (by omega) ⟨j0,rfl,hj,rfl,rfl⟩
theorem Ra2 {mk : Nat → σ} {c : α → Bool} {u fin : Nat} (t : Ty α) (l : List α) (hl : l.length ≤ 1000000000)
  (h:∀ j,j < l.length→step (mk j)=sl (c (gL t l j)) (.exit u) (.next (mk (j+1)))) (hf:step (mk l.length)=.exit fin) (j0:Nat) (hj:j0≤l.length) :
  lp step (mk j0)=if (l.drop j0).any c then (u,mk (j0+(l.drop j0).findIdx c)) else (fin,mk l.length):=by
 have key:=ac5 (step:=step) (I:=fun m s=>∃ j,m=l.length - j∧j≤l.length∧j0≤j∧s=mk j∧(l.drop j).any c=(l.drop j0).any c∧j+(l.drop j).findIdx c=j0+(l.drop j0).findIdx c)
  (Q:=fun v s=>(v,s)=if (l.drop j0).any c then (u,mk (j0+(l.drop j0).findIdx c)) else (fin,mk l.length)) (fun m s ⟨j,hm,hj,hj0,hs,he,hi⟩=>by
   subst hs
   by_cases hlt:j < l.length
   ·have h1:=h j hlt
    have e:gL t l j=l[j]:=by simp[gL,List.getD_eq_getElem?_getD,List.getElem?_eq_getElem hlt]
    have e2:(l.drop j).any c=(c l[j]||(l.drop (j+1)).any c):=by rw[List.drop_eq_getElem_cons hlt,List.any_cons]
    have e3:(l.drop j).findIdx c=if c l[j] then 0 else (l.drop (j+1)).findIdx c+1:=by rw[List.drop_eq_getElem_cons hlt,List.findIdx_cons];cases c l[j]<;>rfl
    rw[e] at h1
    cases hc:c l[j] with
    | true =>
     rw[hc] at h1
     refine .inl ⟨u,h1,?_⟩
     rw[← he,e2,hc,← hi,e3,hc];rfl
    | false =>
     rw[hc] at h1
     refine .inr ⟨_,l.length - (j+1),by omega,h1,j+1,rfl,by omega,by omega,rfl,?_,?_⟩
     ·rw[← he,e2,hc];rfl
     ·rw[← hi,e3,hc];simp only[Bool.false_eq_true,if_false];omega
   ·have:j=l.length:=by omega
    subst this
    refine .inl ⟨fin,hf,?_⟩
    rw[← he];simp) (l.length - j0) (mk j0) (by omega) ⟨j0,rfl,hj,Nat.le_refl _,rfl,rfl,rfl⟩
 exact key
end
theorem eb9 {α:Type} (t:Ty α) {l:List α} {j:Nat} (h:j < l.length):gL t l j∈l:=by
 simp[gL,List.getD_eq_getElem?_getD,List.getElem?_eq_getElem h]
theorem wb8 {α:Type} (t:Ty α) {l:List α} {j:Nat} (h:j < l.length):gL t l j=l[j]:=by
 simp[gL,List.getD_eq_getElem?_getD,List.getElem?_eq_getElem h]
end Go.Ev.L
namespace Go.Ev.L
open Go Go.Ev
def euF:Nat→Int→Int→Int
 | 0,g,_=>g
 | k+1,g,n=>if n=0 then g else euF k n (Int.tmod g n)
def eu (g n:Int):Int:=euF (n.natAbs+1) g n
theorem Sa5 {g n:Int} (h:n≠0):(Int.tmod g n).natAbs < n.natAbs:=by
 rw[Int.natAbs_tmod]
 exact Nat.mod_lt _ (by omega)
theorem md7:∀ (k m:Nat) {g n:Int},n.natAbs < k→n.natAbs < m→euF k g n=euF m g n
 | 0,_,_,_,h,_=>by omega
 | _+1,0,_,_,_,h=>by omega
 | k+1,m+1,g,n,h1,h2=>by
  unfold euF
  by_cases h:n=0
  ·rw[if_pos h,if_pos h]
  ·rw[if_neg h,if_neg h]
   have:=Sa5 (g:=g) h
   exact md7 k m (by omega) (by omega)
theorem Rb5 (g:Int):eu g 0=g:=by simp[eu,euF]
theorem Zc8 {g n:Int} (h:n≠0):eu g n=eu n (Int.tmod g n):=by
 have:=Sa5 (g:=g) h
 unfold eu
 conv=>lhs;unfold euF
 rw[if_neg h]
 exact md7 _ _ (by omega) (by omega)
theorem Ge6:∀ (k:Nat) (g n:Int),n.natAbs≤k→(eu g n).natAbs=Int.gcd g n:=by
 intro k
 induction k with
 | zero =>
  intro g n h
  have:n=0:=by omega
  subst this
  rw[Rb5];simp
 | succ k ih =>
  intro g n h
  by_cases h0:n=0
  ·subst h0;rw[Rb5];simp
  ·have:=Sa5 (g:=g) h0
   rw[Zc8 h0,ih n (Int.tmod g n) (by omega)]
   unfold Int.gcd
   rw[Int.natAbs_tmod,Nat.gcd_comm g.natAbs,Nat.gcd_comm n.natAbs,← Nat.gcd_rec]
theorem Ge7 (g n:Int):(eu g n).natAbs=Int.gcd g n:=Ge6 _ g n (Nat.le_refl _)
theorem Nd7:∀ (k:Nat) (g n:Int),n.natAbs≤k→0≤g→0≤n→0≤eu g n:=by
 intro k
 induction k with
 | zero =>
  intro g n h hg _
  have:n=0:=by omega
  subst this
  rw[Rb5];exact hg
 | succ k ih =>
  intro g n h hg hn
  by_cases h0:n=0
  ·subst h0;rw[Rb5];exact hg
  ·have:=Sa5 (g:=g) h0
   rw[Zc8 h0]
   exact ih n _ (by omega) hn (Int.tmod_nonneg _ hg)
theorem Ge8 {g n:Int} (hg:0≤g) (hn:0≤n):eu g n=(Int.gcd g n:Int):=by
 have h1:=Nd7 _ g n (Nat.le_refl _) hg hn
 have h2:=Ge7 g n
 omega
section
variable {σ:Type} {step:σ→Stp σ} {mk:Int→Int→σ}
theorem hc7 (h:∀ g n,0 < n→step (mk g n)=.next (mk n (Int.tmod g n))) (h0:∀ g,step (mk g 0)=.exit 1) (g n:Int) (hg:0≤g) (h1:0≤n) (hn:n≤9223372036854775808):lp step (mk g n)=(1,mk (eu g n) 0):=by
 have:=ac5 (step:=step) (I:=fun m s=>∃ a c,s=mk a c∧c.natAbs≤m∧0≤a∧0≤c∧eu a c=eu g n) (Q:=fun u s=>(u,s)=(1,mk (eu g n) 0)) (fun m s ⟨a,c,hs,hm,ha,hc0,he⟩=>by
  subst hs
  by_cases hc:c=0
  ·subst hc
   rw[Rb5] at he
   subst he
   exact .inl ⟨1,h0 _,rfl⟩
  ·have ht:=Sa5 (g:=a) hc
   exact .inr ⟨_,m - 1,by omega,h a c (by omega),c,_,rfl,by omega,hc0,Int.tmod_nonneg _ ha,by rw[← he,Zc8 hc]⟩) n.natAbs (mk g n) (by omega) ⟨g,n,rfl,Nat.le_refl _,hg,h1,rfl⟩
 exact this
end
theorem mb {a c A C:Int} (h1:-A≤a) (h2:a≤A) (h3:-C≤c) (h4:c≤C):-(A*C)≤a*c∧a*c≤A*C:=by
 have hA:a.natAbs≤A.natAbs:=by omega
 have hC:c.natAbs≤C.natAbs:=by omega
 have h5:=Nat.mul_le_mul hA hC
 rw[← Int.natAbs_mul,← Int.natAbs_mul] at h5
 have h6:0≤A*C:=Int.mul_nonneg (by omega) (by omega)
 omega
end Go.Ev.L
namespace Go.Proofs
open Go.Shelf
set_option maxRecDepth 100000 in
def Ce.sortLayV_ren:Go.Shelf.Ren:=⟨fun | 6=>146 | 15=>180 | 14=>187 | 28=>207 | 29=>208 | 20=>212 | 21=>213 | 22=>214 | 23=>215 | 24=>216 | 25=>217 | 26=>218 | 27=>219 | 46=>230 | 47=>224 | 48=>225 | 49=>231 | 50=>232 | 57=>234 | n=>n,fun | 22=>33 | 24=>27 | 25=>112 | 3=>3 | 39=>173 | 0=>0 | 53=>197 | 55=>199 | 4=>4 | 46=>191 | 45=>190 | 50=>50 | 5=>5 | 9=>9 | 66=>210 | 70=>214 | 76=>218 | 77=>219 | n=>n,fun | n=>n⟩
set_option maxRecDepth 100000 in
theorem Ce.sortLayV:Go.Proofs.SlLaysF0.n6 Tryz.prog Ce.sortLayV_ren:={
 mixed:=by kernel_rfl
 f6:=⟨Tryz.f146.name,by decide,Tryz.func146.trans (congrArg some (by kernel_rfl))⟩
 f14:=⟨Tryz.f187.name,by decide,Tryz.func187.trans (congrArg some (by kernel_rfl))⟩
 f15:=Tryz.func180.trans (congrArg some (by kernel_rfl))
 f20:=⟨Tryz.f212.name,by decide,Tryz.func212.trans (congrArg some (by kernel_rfl))⟩
 f21:=⟨Tryz.f213.name,by decide,Tryz.func213.trans (congrArg some (by kernel_rfl))⟩
 f22:=⟨Tryz.f214.name,by decide,Tryz.func214.trans (congrArg some (by kernel_rfl))⟩
 f23:=⟨Tryz.f215.name,by decide,Tryz.func215.trans (congrArg some (by kernel_rfl))⟩
 f24:=⟨Tryz.f216.name,by decide,Tryz.func216.trans (congrArg some (by kernel_rfl))⟩
 f25:=⟨Tryz.f217.name,by decide,Tryz.func217.trans (congrArg some (by kernel_rfl))⟩
 f26:=⟨Tryz.f218.name,by decide,Tryz.func218.trans (congrArg some (by kernel_rfl))⟩
 f27:=⟨Tryz.f219.name,by decide,Tryz.func219.trans (congrArg some (by kernel_rfl))⟩
 f28:=Tryz.func207.trans (congrArg some (by kernel_rfl))
 f29:=Tryz.func208.trans (congrArg some (by kernel_rfl))
 f46:=⟨Tryz.f230.name,by decide,Tryz.func230.trans (congrArg some (by kernel_rfl))⟩
 f47:=Tryz.func224.trans (congrArg some (by kernel_rfl))
 f48:=Tryz.func225.trans (congrArg some (by kernel_rfl))
 f49:=⟨Tryz.f231.name,by decide,Tryz.func231.trans (congrArg some (by kernel_rfl))⟩
 f50:=⟨Tryz.f232.name,by decide,Tryz.func232.trans (congrArg some (by kernel_rfl))⟩
 f57:=⟨Tryz.f234.name,by decide,Tryz.func234.trans (congrArg some (by kernel_rfl))⟩
 t0:=Tryz.underlying0
 a0:=Tryz.isAgg0
 z0:=Tryz.sizeOf0
 v0:=Tryz.zeroValue0
 t3:=Tryz.underlying3
 a3:=Tryz.isAgg3
 z3:=Tryz.sizeOf3
 v3:=Tryz.zeroValue3
 t4:=Tryz.underlying4
 a4:=Tryz.isAgg4
 z4:=Tryz.sizeOf4
 v4:=Tryz.zeroValue4
 t5:=Tryz.underlying5
 a5:=Tryz.isAgg5
 z5:=Tryz.sizeOf5
 v5:=Tryz.zeroValue5
 t9:=Tryz.underlying9
 a9:=Tryz.isAgg9
 z9:=Tryz.sizeOf9
 v9:=Tryz.zeroValue9
 t22:=Tryz.underlying33
 a22:=Tryz.isAgg33
 z22:=Tryz.sizeOf33
 v22:=Tryz.zeroValue33
 t25:=Tryz.underlying112
 a25:=Tryz.isAgg112
 z25:=Tryz.sizeOf112
 v25:=Tryz.zeroValue112
 t39:=Tryz.underlying173
 a39:=Tryz.isAgg173
 z39:=Tryz.sizeOf173
 v39:=Tryz.zeroValue173
 t45:=Tryz.underlying190
 a45:=Tryz.isAgg190
 z45:=Tryz.sizeOf190
 v45:=Tryz.zeroValue190
 t46:=Tryz.underlying191
 a46:=Tryz.isAgg191
 z46:=Tryz.sizeOf191
 v46:=Tryz.zeroValue191
 t50:=Tryz.underlying50
 a50:=Tryz.isAgg50
 z50:=Tryz.sizeOf50
 v50:=Tryz.zeroValue50
 t53:=Tryz.underlying197
 a53:=Tryz.isAgg197
 z53:=Tryz.sizeOf197
 v53:=Tryz.zeroValue197
 t55:=Tryz.underlying199
 a55:=Tryz.isAgg199
 z55:=Tryz.sizeOf199
 v55:=Tryz.zeroValue199
 t66:=Tryz.underlying210
 a66:=Tryz.isAgg210
 z66:=Tryz.sizeOf210
 v66:=Tryz.zeroValue210
 t70:=Tryz.underlying214
 a70:=Tryz.isAgg214
 z70:=Tryz.sizeOf214
 v70:=Tryz.zeroValue214
 t76:=Tryz.underlying218
 a76:=Tryz.isAgg218
 z76:=Tryz.sizeOf218
 v76:=Tryz.zeroValue218
 t77:=Tryz.underlying219
 a77:=Tryz.isAgg219
 z77:=Tryz.sizeOf219
 v77:=Tryz.zeroValue219 }
end Go.Proofs
namespace Go.Ev.Ce
open Go Go.Ev Go.Ev.L Go.Proofs Go.Sort
theorem Fd7 (x y:Int):fa5 x y=some (i (eb0 x y),[]):=by
 unfold fa5 xa1 eb0
 simp only[bne_self_eq_false,Jb3,decide_eq_true_eq,Bool.false_eq_true,if_false]
 split<;>(try split)<;>rfl
theorem Ge9 (x y:Int):V8 x y=eb0 x y:=by unfold V8;rw[Fd7];rfl
theorem He0 (x y:Int):V9 x y=true:=by unfold V9;rw[Fd7];rfl
def orI (a c d:Int):Int:=if a=0 then if c=0 then d else c else a
theorem re8 (a c d:Int):((lp (X4 ⟨[a,c,d],3⟩) ⟨0⟩).1=1∧gL tI [a,c,d] (lp (X4 ⟨[a,c,d],3⟩) ⟨0⟩).2.is8.toNat=orI a c d)∨((lp (X4 ⟨[a,c,d],3⟩) ⟨0⟩).1=2∧orI a c d=0):=by
 have g0:gL tI [a,c,d] 0=a:=rfl
 have g1:gL tI [a,c,d] 1=c:=rfl
 have g2:gL tI [a,c,d] 2=d:=rfl
 refine ac5 (step:=X4 ⟨[a,c,d],3⟩) (I:=fun m s=>(m=3∧s=⟨0⟩)∨(m=2∧s=⟨1⟩∧a=0)∨(m=1∧s=⟨2⟩∧a=0∧c=0)∨(m=0∧s=⟨3⟩∧a=0∧c=0∧d=0))
  (Q:=fun t s=>(t=1∧gL tI [a,c,d] s.is8.toNat=orI a c d)∨(t=2∧orI a c d=0)) (fun m s hi=>?_) 3 ⟨0⟩ (by omega) (.inl ⟨rfl,rfl⟩)
 rcases hi with⟨rfl,rfl⟩ | ⟨rfl,rfl,ha⟩ | ⟨rfl,rfl,ha,hc⟩ | ⟨rfl,rfl,ha,hc,hd⟩
 ·by_cases h:a=0
  ·exact .inr ⟨⟨1⟩,2,rfl,by subst h;rfl,.inr (.inl ⟨rfl,rfl,h⟩)⟩
  ·refine .inl ⟨1,?_,.inl ⟨rfl,by unfold orI;rw[if_neg h];rfl⟩⟩
   show sl (a != 0) (Stp.exit 1) (Stp.next (⟨W (0+1)⟩:K5))=_
   rw[bt (by simpa using h)]
 ·by_cases h:c=0
  ·exact .inr ⟨⟨2⟩,1,rfl,by subst h;rfl,.inr (.inr (.inl ⟨rfl,rfl,ha,h⟩))⟩
  ·refine .inl ⟨1,?_,.inl ⟨rfl,by unfold orI;rw[if_pos ha,if_neg h];rfl⟩⟩
   show sl (c != 0) (Stp.exit 1) (Stp.next (⟨W (1+1)⟩:K5))=_
   rw[bt (by simpa using h)]
 ·by_cases h:d=0
  ·exact .inr ⟨⟨3⟩,0,rfl,by subst h;rfl,.inr (.inr (.inr ⟨rfl,rfl,ha,hc,h⟩))⟩
  ·refine .inl ⟨1,?_,.inl ⟨rfl,by unfold orI;rw[if_pos ha,if_pos hc];rfl⟩⟩
   show sl (d != 0) (Stp.exit 1) (Stp.next (⟨W (2+1)⟩:K5))=_
   rw[bt (by simpa using h)]
 ·exact .inl ⟨2,rfl,.inr ⟨rfl,by unfold orI;rw[if_pos ha,if_pos hc];exact hd⟩⟩
theorem Be1 (a c d:Int):Da0 [a,c,d]=some (i (orI a c d),[]):=by
 have h:=re8 a c d
 unfold Da0
 simp only[p9,l7]
 rw[show ((([a,c,d]:List Int).length:Nat):Int)=3 from rfl]
 generalize lp (X4 ⟨[a,c,d],3⟩) ⟨0⟩=r at *
 rcases h with⟨h1,h2⟩ | ⟨h1,h2⟩
 ·rw[h1,h2];rfl
 ·rw[h1,h2];rfl
theorem cf6 (a c d:Int):Ra0 [a,c,d]=orI a c d:=by unfold Ra0;rw[Be1];rfl
theorem cf7 (a c d:Int):Ra1 [a,c,d]=true:=by unfold Ra1;rw[Be1];rfl
def fb0 (x y:V3):Int:=orI (eb0 x.x y.x) (eb0 x.y y.y) (eb0 x.z y.z)
def LtV (x y:V3):Prop:=x.x < y.x∨x.x=y.x∧(x.y < y.y∨x.y=y.y∧x.z < y.z)
instance (x y:V3):Decidable (LtV x y):=by unfold LtV;exact inferInstance
theorem re9 (x y:V3):fb0 x y < 0↔LtV x y:=by
 have h1:=nb2 x.x y.x;have h2:=Qb5 x.x y.x
 have h3:=nb2 x.y y.y;have h4:=Qb5 x.y y.y
 have h5:=nb2 x.z y.z
 unfold fb0 orI LtV
 split
 ·split<;>omega
 ·omega
theorem za9 (x y:V3):ltOf fb0 x y=decide (LtV x y):=by
 unfold ltOf
 rw[decide_eq_decide]
 exact re9 x y
theorem Se1:SWO (ltOf fb0) where
 irrefl x:=by rw[za9];simp[LtV]
 trans x y z h1 h2:=by rw[za9,decide_eq_true_eq] at *;unfold LtV at *;omega
 ntrans x y z h1 h2:=by rw[za9,decide_eq_false_iff_not] at *;unfold LtV at *;omega
theorem cf8 (x y:V3) (h1:ltOf fb0 x y=false) (h2:ltOf fb0 y x=false):x=y:=by
 rw[za9,decide_eq_false_iff_not] at *
 unfold LtV at *
 obtain⟨a,b,c⟩:=x;obtain⟨a',b',c'⟩:=y
 simp only at *
 have:a=a'∧b=b'∧c=c':=by omega
 obtain⟨rfl,rfl,rfl⟩:=this
 rfl
theorem hc8 (x y:V3):qa5 x y=some (i (fb0 x y),[]):=by
 unfold qa5 fb0
 simp only[Ge9,He0,cf6,cf7,y9]
theorem He1 (x y:V3):Da1 x y=fb0 x y:=by unfold Da1;rw[hc8];rfl
theorem He2 (x y:V3):Da2 x y=true:=by unfold Da2;rw[hc8];rfl
theorem He3 (x y:V3):(Xa1 [.agg (tV.row x),.agg (tV.row y)] []).run=some (i (fb0 x y),[]):=by
 have:(Xa1 [.agg (tV.row x),.agg (tV.row y)] []).run=sel (Da2 x y) (some (i (Da1 x y),[])) none:=by kernel_rfl
 rw[this,He2,He1]
def ae3 (p:V3):List Value:=[.int .i64 p.x,.int .i64 p.y,.int .i64 p.z]
instance:Inhabited V3:=⟨⟨0,0,0⟩⟩
def qb5 (l:List V3):List V3:=l.mergeSort fun x y=>!ltOf fb0 y x
theorem Rc8 (l:List V3):(qb5 l).length=l.length:=List.length_mergeSort l
noncomputable def oa1:Sum:=Ed8 tV 147 27 qb5
theorem Nd8:Ce.sortLayV_ren.f 6=146:=by kernel_rfl
theorem Ac5:Ce.sortLayV_ren.t 24=27:=by kernel_rfl
set_option maxRecDepth 100000 in
theorem Da3:i4 prog G 146 oa1:=by
 refine Ed9 (enc:=ae3) (cf:=fb0) ⟨_,Tryz.func146,by kernel_rfl,of_decide_eq_true (by kernel_rfl)⟩ (by decide) (fun _=>rfl) (fun r h=>Sa6 (n:=3) h) (fun x v hv=>?_) Rc8
  (fun blk off size w=>Ed7 mc2 He3 (fun _=>rfl) (fun _=>rfl) _ _ _ _ _) (fun blk cap d w hcl hH hb hs=>?_)
 ·simp[ae3] at hv
  rcases hv with rfl | rfl | rfl<;>rfl
 ·have eg:∀ args w,(callFunc 147 args).run Tryz.prog w=.ok (.enter 147 args) w:=enters_of Tryz.func147 (by kernel_rfl) rfl
  have:=AnyQ.slices_SortFunc Ce.sortLayV 3 (by rw[Ac5];exact Tryz.isAgg27) (by rw[Ac5];exact Tryz.sizeOf27) ae3 (fun _=>rfl) (fun x v hv=>by simp[ae3] at hv;rcases hv with rfl | rfl | rfl<;>rfl) fb0 Se1 147 #[] blk 0 cap d w eg (hcl 0 d.size) hH hb hs
  rw[Nd8] at this
  refine this.mono fun e w' ⟨h1,d',n,os,h2,h3,h4⟩=>⟨h1,n,os,?_⟩
  have h5:=sorted_unique_holds Se1 cf8 d d' h2 h3
  rw[h4]
  show _=sortWorldK ae3 3 w blk 0 n (d.toList.mergeSort fun x y=>!ltOf fb0 y x).toArray os
  rw[← h5]
end Go.Ev.Ce
section
namespace Go.Ev.Ce
open Go Go.Ev Go.Ev.L Go.Proofs
set_option maxRecDepth 100000
noncomputable def Db2:List (Nat×Sum):=[]
theorem wb9:j9 prog G Db2:=trivial
structure ka3 where
 alt:Nat
 ns0:Nat
 eh0:List (List b7)
noncomputable def R6 {α:Type} (kk:ka3→α) (x:V3×List V3):α:=(sl (Nat.beq (len (r7 (fun k=>(tV).row (gL tV (x.1::x.2) k)) (List.range (List.length x.2+1)))) 0) (kk ⟨1,0,[]⟩) (sl (Nat.beq 0 0&&Nat.ble ((0+(len (r7 (fun k=>(tV).row (gL tV (x.1::x.2) k)) (List.range (List.length x.2+1)))))*24) room) (kk ⟨1,(0+(len (r7 (fun k=>(tV).row (gL tV (x.1::x.2) k)) (List.range (List.length x.2+1))))),(app [] (r7 (fun k=>(tV).row (gL tV (x.1::x.2) k)) (List.range (List.length x.2+1))))⟩) (kk ⟨0,0,[]⟩)))
noncomputable def ca1 (x:V3×List V3):ka3:=R6 (fun r=>r) x
noncomputable def ta8 (r:ka3):DT (b7×List b9):=(.ite (Nat.beq r.alt 1) (.ret ((.sl 0 0 r.ns0 0),[⟨27,3,r.eh0,true,false,0⟩])) .fail)
theorem Kb8 {α β:Type} (F:α→β) (kk:ka3→α) (x:V3×List V3):F (R6 kk x)=R6 (fun r=>F (kk r)) x:=by unfold R6;(repeat' apply o9 (f:=F))<;>rfl
noncomputable def za0:Sum:=Y1 (id5 tV) (fun x=>ta8 (ca1 x))
theorem Pa1:i4 prog G 145 za0:=Bb0 (bd af4 wb9) fun x=>A0 (Eq.trans (b:=R6 (fun r=>(ta8 r).run) x) (by kernel_rfl) (Kb8 (fun r=>(ta8 r).run) (fun r=>r) x).symm)
structure fa6 where
 ns0:Nat
 eh0:List (List b7)
noncomputable def oa2:List (Nat×Sum):=[]
theorem ob0:j9 prog G oa2:=trivial
structure C7 where
 ns0:Nat
 os4:Nat
 ns4:Nat
structure p6 where
 is3:Int
 is5:Int
 eh0:List (List b7)
noncomputable def ib5 (p:C7) (s:p6):St:=⟨((.sl 0 0 p.ns0 0)::(.unk::(.unk::((i s.is3)::((.sl 0 p.os4 p.ns4 0)::((i s.is5)::(ra 55 []))))))),[⟨27,3,s.eh0,true,false,0⟩]⟩
noncomputable def K6 {α:Type} (k:p6→α) (e:Nat→α) (z:α) (p:C7) (s:p6):α:=(sl (decide (s.is5 < (↑p.ns4:Int))) (sl (inB s.is5 p.ns4) (sl (ldR tV s.eh0 (p.os4+s.is5.toNat)) (sl (inB (W (s.is5 - 1)) p.ns4) (sl (ldR tV s.eh0 (p.os4+(W (s.is5 - 1)).toNat)) (sl (!(((rdR tV s.eh0 (p.os4+s.is5.toNat)).x==(rdR tV s.eh0 (p.os4+(W (s.is5 - 1)).toNat)).x)&&(((rdR tV s.eh0 (p.os4+s.is5.toNat)).y==(rdR tV s.eh0 (p.os4+(W (s.is5 - 1)).toNat)).y)&&(((rdR tV s.eh0 (p.os4+s.is5.toNat)).z==(rdR tV s.eh0 (p.os4+(W (s.is5 - 1)).toNat)).z)&&true)))) (sl (inB s.is5 p.ns4) (sl (ldR tV s.eh0 (p.os4+s.is5.toNat)) (sl (inB s.is3 p.ns0) (sl ((Nat.blt (0+s.is3.toNat) (len s.eh0))&&(Nat.ble (0+3) (len (i7 s.eh0 (0+s.is3.toNat))))) (k ⟨(W (s.is3+1)),(W (s.is5+1)),(setAt s.eh0 (0+s.is3.toNat) (P7 (i7 s.eh0 (0+s.is3.toNat)) 0 [(i (rdR tV s.eh0 (p.os4+s.is5.toNat)).x),(i (rdR tV s.eh0 (p.os4+s.is5.toNat)).y),(i (rdR tV s.eh0 (p.os4+s.is5.toNat)).z)]))⟩) z) z) z) z) (k ⟨s.is3,(W (s.is5+1)),s.eh0⟩)) z) z) z) z) (e 1))
noncomputable def q8 (p:C7) (s:p6):Stp p6:=K6 .next .exit .fail p s
noncomputable def ka4:Lo C7 p6:=⟨En oa2,1,Zd3,[1,1,0,1,4,4,1,0,4,1,2,1,0,1,4,4],[0,3,4,5],.p,[⟨((.s (.o (.sl 0 0 (some 0) none)))::((.s (.o .unk))::((.s (.o .unk))::((.s (.o (.int .i64)))::((.s (.o (.sl 0 0 none none)))::((.s (.o (.int .i64)))::(ru2 55 []))))))),[⟨27,3,true,none⟩],fun a H=>(⟨(slN (slT a 0)),(slO (slT a 4)),(slN (slT a 4))⟩,⟨(toI (slT a 3)),(toI (slT a 5)),(elT H 0)⟩)⟩],q8,[(some 2,fun p s=>⟨((.sl 0 0 p.ns0 0)::(.unk::(.unk::((i s.is3)::((.sl 0 p.os4 p.ns4 0)::((i s.is5)::(ra 23 ((i s.is5)::((.sl 0 p.os4 p.ns4 0)::((i (↑p.ns4:Int))::((b (decide (s.is5 < (↑p.ns4:Int))))::(ra 28 [])))))))))))),[⟨27,3,s.eh0,true,false,0⟩]⟩)],ib5⟩
theorem ib6:ka4.Ok:=Lo.ok [] (by kernel_rfl) .nil rfl (.cons (fun a H=>by kernel_rfl) .nil) fun p s=>(.of @K6 (fun F _ _ _ _ _=>by unfold K6;(repeat' apply o9 (f:=F))<;>rfl) (by kernel_rfl))
structure N9 where
 ns0:Nat
 eh0:List (List b7)
structure r9 where
 is3:Int
noncomputable def ib7 (p:N9) (s:r9):St:=⟨((.sl 0 0 p.ns0 0)::(.unk::(.unk::((i s.is3)::(ra 57 []))))),[⟨27,3,p.eh0,true,false,0⟩]⟩
noncomputable def K7 {α:Type} (k:r9→α) (e:Nat→α) (z:α) (p:N9) (s:r9):α:=let t1:=(lp (q8 (⟨p.ns0,(0+s.is3.toNat),(p.ns0 - s.is3.toNat)⟩:C7)) (⟨s.is3,1,p.eh0⟩:p6));(sl (decide (s.is3 < (↑p.ns0:Int))) (sl (inB s.is3 p.ns0) (sl (ldR tV p.eh0 (0+s.is3.toNat)) (sl (inB (W (s.is3 - 1)) p.ns0) (sl (ldR tV p.eh0 (0+(W (s.is3 - 1)).toNat)) (sl (((rdR tV p.eh0 (0+s.is3.toNat)).x==(rdR tV p.eh0 (0+(W (s.is3 - 1)).toNat)).x)&&(((rdR tV p.eh0 (0+s.is3.toNat)).y==(rdR tV p.eh0 (0+(W (s.is3 - 1)).toNat)).y)&&(((rdR tV p.eh0 (0+s.is3.toNat)).z==(rdR tV p.eh0 (0+(W (s.is3 - 1)).toNat)).z)&&true))) (sl (inB s.is3 (p.ns0+1)) (sl (Nat.beq t1.1 1) (sl (inB t1.2.is3 (p.ns0+1)) (sl (inB t1.2.is3 (p.ns0+1)) (e 1) z) z) z) z) (k ⟨(W (s.is3+1))⟩)) z) z) z) z) (e 2))
noncomputable def L9 (p:N9) (s:r9):Stp r9:=K7 .next .exit .fail p s
noncomputable def ka5:Lo N9 r9:=⟨En oa2,1,Zd3,[1,1,0,1,4,4],[0,3],(.s .p (.s (.b (.s .p (.c (.s .p (.s (.s .p (.b (.u ka4.ls))) .p)) .p))) .p)),[⟨((.s (.o (.sl 0 0 (some 0) none)))::((.s (.o .unk))::((.s (.o .unk))::((.s (.o (.int .i64)))::(ru2 57 []))))),[⟨27,3,true,none⟩],fun a H=>(⟨(slN (slT a 0)),(elT H 0)⟩,⟨(toI (slT a 3))⟩)⟩],L9,[(none,fun p s=>let t1:=(lp (q8 (⟨p.ns0,(0+s.is3.toNat),(p.ns0 - s.is3.toNat)⟩:C7)) (⟨s.is3,1,p.eh0⟩:p6));⟨[(.sl 0 0 (t1.2.is3.toNat - 0) 0)],[⟨27,3,(app (H6 t1.2.eh0 (0+t1.2.is3.toNat)) (app (List.replicate (p.ns0 - t1.2.is3.toNat) [(i 0),(i 0),(i 0)]) (g8 t1.2.eh0 ((0+t1.2.is3.toNat)+(p.ns0 - t1.2.is3.toNat))))),true,false,0⟩]⟩),(some 0,fun p s=>⟨((.sl 0 0 p.ns0 0)::(.unk::(.unk::((i s.is3)::(ra 6 ((i s.is3)::((.sl 0 0 p.ns0 0)::((i (↑p.ns0:Int))::((b (decide (s.is3 < (↑p.ns0:Int))))::(ra 47 [])))))))))),[⟨27,3,p.eh0,true,false,0⟩]⟩)],ib7⟩
theorem ib8:ka5.Ok:=Lo.ok [ka4.pr] (by kernel_rfl) (.cons ib6 .nil) rfl (.cons (fun a H=>by kernel_rfl) .nil) fun p s=>(.of @K7 (fun F _ _ _ _ _=>by unfold K7;(repeat' apply o9 (f:=F))<;>rfl) (by kernel_rfl))
structure fa7 where
 alt:Nat
 ns0:Nat
 eh0:List (List b7)
noncomputable def M0 {α:Type} (kk:fa7→α) (x:fa6):α:=let t1:=(lp (L9 (⟨x.ns0,x.eh0⟩:N9)) (⟨1⟩:r9));let t2:=(lp (q8 (⟨x.ns0,(0+t1.2.is3.toNat),(x.ns0 - t1.2.is3.toNat)⟩:C7)) (⟨t1.2.is3,1,x.eh0⟩:p6));(sl (decide ((↑x.ns0:Int) < 2)) (kk ⟨1,x.ns0,x.eh0⟩) (sl (Nat.beq t1.1 1) (kk ⟨1,(t2.2.is3.toNat - 0),(app (H6 t2.2.eh0 (0+t2.2.is3.toNat)) (app (List.replicate (x.ns0 - t2.2.is3.toNat) [(i 0),(i 0),(i 0)]) (g8 t2.2.eh0 ((0+t2.2.is3.toNat)+(x.ns0 - t2.2.is3.toNat)))))⟩) (sl (Nat.beq t1.1 2) (kk ⟨1,x.ns0,x.eh0⟩) (kk ⟨0,0,[]⟩))))
noncomputable def M1 (x:fa6):fa7:=M0 (fun r=>r) x
noncomputable def oa3 (x:fa6) (r:fa7):DT (b7×List b9):=(.ite (Nat.beq r.alt 1) (.ret ((.sl 0 0 r.ns0 0),[⟨27,3,r.eh0,true,false,0⟩])) .fail)
theorem xb0 {α β:Type} (F:α→β) (kk:fa7→α) (x:fa6):F (M0 kk x)=M0 (fun r=>F (kk r)) x:=by unfold M0;(repeat' apply o9 (f:=F))<;>rfl
noncomputable def qa6:Sum:=Ua3 ⟨[(.s (.o (.sl 0 0 (some 0) none)))],[⟨27,3,true,none⟩],fun a H=>(⟨(slN (slT a 0)),(elT H 0)⟩,())⟩ (fun x=>oa3 x (M1 x))
theorem Fa5:i4 prog G 148 qa6:=P8 (enc:=fun x=>⟨[(.sl 0 0 x.ns0 0)],[⟨27,3,x.eh0,true,false,0⟩]⟩) (fun a H=>by kernel_rfl) (bd af6 ob0) fun x=>Pa9 (.s .p (.s .p (.s (.s .p (.b (.u ka5.ls))) .p))) [ka5.pr] (by kernel_rfl) (.cons ib8 .nil) (Eq.trans (b:=M0 (fun r=>(oa3 x r).run) x) (by kernel_rfl) (xb0 (fun r=>(oa3 x r).run) (fun r=>r) x).symm)
noncomputable def ac7:List (Nat×Sum):=[(145,za0),(146,oa1),(148,qa6)]
theorem Rb6:j9 prog G ac7:=⟨Pa1,Da3,Fa5,trivial⟩
noncomputable def la7 (x:V3×List V3):Option (b7×List b9):=let t1:=(ca1 (hC tV (fun k=>(tV).row (gL tV (x.1::x.2) k)),tC tV (List.length x.2) (fun k=>(tV).row (gL tV (x.1::x.2) k))));let t2:=(M1 ⟨t1.ns0,(app (bL tV (qb5 (slR tV t1.eh0 0 t1.ns0))) (g8 t1.eh0 t1.ns0))⟩);(sl (okL tV (List.length x.2+1) (fun k=>(tV).row (gL tV (x.1::x.2) k))) (sl (Nat.beq t1.alt 1) (sl (Bool.and (Nat.ble t1.ns0 room) (Bool.and (Nat.ble t1.ns0 (len t1.eh0)) (okS tV t1.eh0 0 t1.ns0))) (sl (Nat.beq t2.alt 1) (some ((.sl 0 0 t2.ns0 0),[⟨27,3,t2.eh0,true,false,0⟩])) none) none) none) none)
noncomputable def Na1 (x:V3×List V3):List V3:=U2 (one (r1L tV)) (la7 x)
noncomputable def Na2 (x:V3×List V3):Bool:=okO (one (r1L tV)) (la7 x)
noncomputable def qb6:Sum:=Y1 (id5 tV) (fun x=>.guard (Na2 x) (.ret ((one (r1L tV)).enc (Na1 x),[])))
theorem ac8:i4 prog G 92 qb6:=Ua2 (bd b92 Rb6) (one (r1L tV)) (o:=la7) fun x=>A0 (by kernel_rfl)
end Go.Ev.Ce
end
