/- Own work: a part of the proof. -/
import Derived.Test.YtekgjjgbdcgldaaGreatEvBd
import Derived.Test.YtekgjjgbdcgldaaGreatChecked
import Derived.Test.YtekgjjgbdcgldaaGreatEvOCePf
import Derived.KernelRfl
import Derived.Test.YtekgjjgbdcgldaaGreatEvSp2
import Derived.Test.YtekgjjgbdcgldaaGreatEvMem
import Derived.Shelf.Spec.SlicesGrow
set_option linter.unusedVariables false
set_option linter.unusedSimpArgs false
set_option linter.unnecessarySimpa false
set_option linter.unusedSectionVars false
section
namespace Go.Ev.Ce
open Go Go.Ev Go.Proofs
set_option maxRecDepth 1000000
theorem mx:(Tryz.prog).follows .mixedOrders=true:=Checked.mixed Tryz.checked
theorem b3:C7 Tryz.prog 3 fun E=>m8 E pf3:=E7 mx Tryz.func3 (by kernel_rfl) (i8 (by kernel_rfl))
theorem b4:C7 Tryz.prog 4 fun E=>m8 E pf4:=E7 mx Tryz.func4 (by kernel_rfl) (i8 (by kernel_rfl))
theorem b5:C7 Tryz.prog 5 fun E=>m8 E pf5:=E7 mx Tryz.func5 (by kernel_rfl) (i8 (by kernel_rfl))
theorem b6:C7 Tryz.prog 6 fun E=>m8 E pf6:=E7 mx Tryz.func6 (by kernel_rfl) (i8 (by kernel_rfl))
theorem b15:C7 Tryz.prog 15 fun E=>m8 E We2:=E7 mx Tryz.func15 (by kernel_rfl) (i8 (by kernel_rfl))
theorem b19:C7 Tryz.prog 19 fun E=>m8 E We3:=E7 mx Tryz.func19 (by kernel_rfl) (i8 (by kernel_rfl))
theorem b21:C7 Tryz.prog 21 fun E=>m8 E We4:=E7 mx Tryz.func21 (by kernel_rfl) (i8 (by kernel_rfl))
theorem b23:C7 Tryz.prog 23 fun E=>m8 E Oe0:=E7 mx Tryz.func23 (by kernel_rfl) (i8 (by kernel_rfl))
theorem b25:C7 Tryz.prog 25 fun E=>m8 E Oe1:=E7 mx Tryz.func25 (by kernel_rfl) (i8 (by kernel_rfl))
theorem b27:C7 Tryz.prog 27 fun E=>m8 E We5:=E7 mx Tryz.func27 (by kernel_rfl) (i8 (by kernel_rfl))
theorem b28:C7 Tryz.prog 28 fun E=>m8 E We6:=E7 mx Tryz.func28 (by kernel_rfl) (i8 (by kernel_rfl))
theorem b30:C7 Tryz.prog 30 fun E=>m8 E Oe2:=E7 mx Tryz.func30 (by kernel_rfl) (i8 (by kernel_rfl))
theorem b31:C7 Tryz.prog 31 fun E=>m8 E Oe3:=E7 mx Tryz.func31 (by kernel_rfl) (i8 (by kernel_rfl))
theorem b33:C7 Tryz.prog 33 fun E=>m8 E We7:=E7 mx Tryz.func33 (by kernel_rfl) (i8 (by kernel_rfl))
theorem b34:C7 Tryz.prog 34 fun E=>m8 E We8:=E7 mx Tryz.func34 (by kernel_rfl) (i8 (by kernel_rfl))
theorem b35:C7 Tryz.prog 35 fun E=>m8 E We9:=E7 mx Tryz.func35 (by kernel_rfl) (i8 (by kernel_rfl))
theorem b36:C7 Tryz.prog 36 fun E=>m8 E Oe4:=E7 mx Tryz.func36 (by kernel_rfl) (i8 (by kernel_rfl))
theorem b52:C7 Tryz.prog 52 fun E=>m8 E Xe0:=E7 mx Tryz.func52 (by kernel_rfl) (i8 (by kernel_rfl))
theorem b64:C7 Tryz.prog 64 fun E=>mb6 E qe6:=Yd6 (h:=h64) mx Tryz.func64 (by kernel_rfl) Tryz.func176 (by kernel_rfl) (i8 (by kernel_rfl))
theorem b67:C7 Tryz.prog 67 fun E=>m8 E Xe1:=E7 mx Tryz.func67 (by kernel_rfl) (i8 (by kernel_rfl))
theorem b68:C7 Tryz.prog 68 fun E=>m8 E Xe2:=E7 mx Tryz.func68 (by kernel_rfl) (i8 (by kernel_rfl))
theorem b74:C7 Tryz.prog 74 fun E=>m8 E Ge1:=E7 mx Tryz.func74 (by kernel_rfl) (i8 (by kernel_rfl))
theorem b75:C7 Tryz.prog 75 fun E=>m8 E Xe3:=E7 mx Tryz.func75 (by kernel_rfl) (i8 (by kernel_rfl))
theorem b77:C7 Tryz.prog 77 fun E=>m8 E Xe4:=E7 mx Tryz.func77 (by kernel_rfl) (i8 (by kernel_rfl))
theorem b78:C7 Tryz.prog 78 fun E=>m8 E Yd7:=E7 mx Tryz.func78 (by kernel_rfl) (i8 (by kernel_rfl))
theorem b79:C7 Tryz.prog 79 fun E=>mb6 E Ge2:=Yd6 (h:=h79) mx Tryz.func79 (by kernel_rfl) Tryz.func176 (by kernel_rfl) (i8 (by kernel_rfl))
theorem b80:C7 Tryz.prog 80 fun E=>m8 E Xe5:=E7 mx Tryz.func80 (by kernel_rfl) (i8 (by kernel_rfl))
theorem b83:C7 Tryz.prog 83 fun E=>m8 E Xe6:=E7 mx Tryz.func83 (by kernel_rfl) (i8 (by kernel_rfl))
theorem b84:C7 Tryz.prog 84 fun E=>m8 E Xe7:=E7 mx Tryz.func84 (by kernel_rfl) (i8 (by kernel_rfl))
theorem b85:C7 Tryz.prog 85 fun E=>m8 E Xe8:=E7 mx Tryz.func85 (by kernel_rfl) (i8 (by kernel_rfl))
theorem b86:C7 Tryz.prog 86 fun E=>m8 E Xe9:=E7 mx Tryz.func86 (by kernel_rfl) (i8 (by kernel_rfl))
theorem b87:C7 Tryz.prog 87 fun E=>m8 E Ye0:=E7 mx Tryz.func87 (by kernel_rfl) (i8 (by kernel_rfl))
theorem b88:C7 Tryz.prog 88 fun E=>m8 E Ye1:=E7 mx Tryz.func88 (by kernel_rfl) (i8 (by kernel_rfl))
theorem b89:C7 Tryz.prog 89 fun E=>m8 E Oe5:=E7 mx Tryz.func89 (by kernel_rfl) (i8 (by kernel_rfl))
theorem b90:C7 Tryz.prog 90 fun E=>m8 E Ge3:=E7 mx Tryz.func90 (by kernel_rfl) (i8 (by kernel_rfl))
theorem b91:C7 Tryz.prog 91 fun E=>m8 E Oe6:=E7 mx Tryz.func91 (by kernel_rfl) (i8 (by kernel_rfl))
theorem b92:C7 Tryz.prog 92 fun E=>m8 E Ye2:=E7 mx Tryz.func92 (by kernel_rfl) (i8 (by kernel_rfl))
theorem Ye3:C7 Tryz.prog 107 fun E=>m8 E Oe7:=E7 mx Tryz.func107 (by kernel_rfl) (i8 (by kernel_rfl))
theorem Ye4:C7 Tryz.prog 108 fun E=>m8 E Oe8:=E7 mx Tryz.func108 (by kernel_rfl) (i8 (by kernel_rfl))
theorem Ye5:C7 Tryz.prog 118 fun E=>m8 E Oe9:=E7 mx Tryz.func118 (by kernel_rfl) (i8 (by kernel_rfl))
theorem Ye6:C7 Tryz.prog 119 fun E=>m8 E Ae0:=E7 mx Tryz.func119 (by kernel_rfl) (i8 (by kernel_rfl))
theorem Ye7:C7 Tryz.prog 120 fun E=>m8 E Pe0:=E7 mx Tryz.func120 (by kernel_rfl) (i8 (by kernel_rfl))
theorem Ye8:C7 Tryz.prog 122 fun E=>m8 E Pe1:=E7 mx Tryz.func122 (by kernel_rfl) (i8 (by kernel_rfl))
theorem Ye9:C7 Tryz.prog 128 fun E=>m8 E Pe2:=E7 mx Tryz.func128 (by kernel_rfl) (i8 (by kernel_rfl))
theorem Ze0:C7 Tryz.prog 129 fun E=>m8 E Ae1:=E7 mx Tryz.func129 (by kernel_rfl) (i8 (by kernel_rfl))
theorem Ze1:C7 Tryz.prog 130 fun E=>m8 E Pe3:=E7 mx Tryz.func130 (by kernel_rfl) (i8 (by kernel_rfl))
theorem Ze2:C7 Tryz.prog 131 fun E=>m8 E Pe4:=E7 mx Tryz.func131 (by kernel_rfl) (i8 (by kernel_rfl))
theorem Ze3:C7 Tryz.prog 135 fun E=>m8 E Pe5:=E7 mx Tryz.func135 (by kernel_rfl) (i8 (by kernel_rfl))
theorem Ze4:C7 Tryz.prog 138 fun E=>m8 E Ae2:=E7 mx Tryz.func138 (by kernel_rfl) (i8 (by kernel_rfl))
theorem Re5:C7 Tryz.prog 139 fun E=>m8 E Yd8:=E7 mx Tryz.func139 (by kernel_rfl) (i8 (by kernel_rfl))
theorem Ze5:C7 Tryz.prog 140 fun E=>m8 E Pe6:=E7 mx Tryz.func140 (by kernel_rfl) (i8 (by kernel_rfl))
theorem Ze6:C7 Tryz.prog 141 fun E=>m8 E Pe7:=E7 mx Tryz.func141 (by kernel_rfl) (i8 (by kernel_rfl))
theorem Ze7:C7 Tryz.prog 142 fun E=>m8 E Pe8:=E7 mx Tryz.func142 (by kernel_rfl) (i8 (by kernel_rfl))
theorem Ze8:C7 Tryz.prog 143 fun E=>m8 E Pe9:=E7 mx Tryz.func143 (by kernel_rfl) (i8 (by kernel_rfl))
theorem qe7:C7 Tryz.prog 144 fun E=>m8 E md0:=E7 mx Tryz.func144 (by kernel_rfl) (i8 (by kernel_rfl))
theorem Ze9:C7 Tryz.prog 145 fun E=>m8 E Qe0:=E7 mx Tryz.func145 (by kernel_rfl) (i8 (by kernel_rfl))
theorem af0:C7 Tryz.prog 147 fun E=>m8 E Qe1:=E7 mx Tryz.func147 (by kernel_rfl) (i8 (by kernel_rfl))
theorem af1:C7 Tryz.prog 148 fun E=>m8 E Yd9:=E7 mx Tryz.func148 (by kernel_rfl) (i8 (by kernel_rfl))
theorem af2:C7 Tryz.prog 156 fun E=>m8 E Qe2:=E7 mx Tryz.func156 (by kernel_rfl) (i8 (by kernel_rfl))
theorem af3:C7 Tryz.prog 162 fun E=>m8 E Qe3:=E7 mx Tryz.func162 (by kernel_rfl) (i8 (by kernel_rfl))
theorem af4:C7 Tryz.prog 163 fun E=>m8 E Ae3:=E7 mx Tryz.func163 (by kernel_rfl) (i8 (by kernel_rfl))
theorem af5:C7 Tryz.prog 164 fun E=>m8 E Qe4:=E7 mx Tryz.func164 (by kernel_rfl) (i8 (by kernel_rfl))
theorem af6:C7 Tryz.prog 173 fun E=>m8 E Qe5:=E7 mx Tryz.func173 (by kernel_rfl) (i8 (by kernel_rfl))
theorem Ge4:C7 Tryz.prog 174 fun E=>m8 E Qe6:=E7 mx Tryz.func174 (by kernel_rfl) (i8 (by kernel_rfl))
theorem af7:C7 Tryz.prog 175 fun E=>mb6 E Fd0:=Yd6 (h:=Ne9) mx Tryz.func175 (by kernel_rfl) Tryz.func176 (by kernel_rfl) (i8 (by kernel_rfl))
theorem af8:C7 Tryz.prog 177 fun E=>m8 E Qe7:=E7 mx Tryz.func177 (by kernel_rfl) (i8 (by kernel_rfl))
theorem af9:C7 Tryz.prog 178 fun E=>m8 E Qe8:=E7 mx Tryz.func178 (by kernel_rfl) (i8 (by kernel_rfl))
theorem bf0:C7 Tryz.prog 183 fun E=>m8 E Qe9:=E7 mx Tryz.func183 (by kernel_rfl) (i8 (by kernel_rfl))
theorem bf1:C7 Tryz.prog 184 fun E=>m8 E Re0:=E7 mx Tryz.func184 (by kernel_rfl) (i8 (by kernel_rfl))
theorem bf2:C7 Tryz.prog 186 fun E=>m8 E Zd0:=E7 mx Tryz.func186 (by kernel_rfl) (i8 (by kernel_rfl))
theorem bf3:C7 Tryz.prog 188 fun E=>m8 E Ae4:=E7 mx Tryz.func188 (by kernel_rfl) (i8 (by kernel_rfl))
theorem bf4:C7 Tryz.prog 189 fun E=>m8 E Re1:=E7 mx Tryz.func189 (by kernel_rfl) (i8 (by kernel_rfl))
theorem bf5:C7 Tryz.prog 191 fun E=>m8 E Ae5:=E7 mx Tryz.func191 (by kernel_rfl) (i8 (by kernel_rfl))
theorem bf6:C7 Tryz.prog 197 fun E=>m8 E Re2:=E7 mx Tryz.func197 (by kernel_rfl) (i8 (by kernel_rfl))
theorem bf7:C7 Tryz.prog 198 fun E=>m8 E Re3:=E7 mx Tryz.func198 (by kernel_rfl) (i8 (by kernel_rfl))
theorem bf8:C7 Tryz.prog 220 fun E=>m8 E Re4:=E7 mx Tryz.func220 (by kernel_rfl) (i8 (by kernel_rfl))
end Go.Ev.Ce
end
namespace Go.Ev.L
open Go Go.Ev
noncomputable def vb6:RT→PC→PS2
 | .s a b,.seq x y=>.seq (vb6 a x) (vb6 b y)
 | .c a b,.cond g x y=>.cond g (vb6 a x) (vb6 b y)
 | .b a,.block id x=>.block id (vb6 a x)
 | .i a,.inner f x n c=>.inner f x n (vb6 a c)
 | .u S,_=>.sum S
 | _,c=>.pc c
theorem Yc6 {E:Env} {k:Nat} (rt:RT) (c:PC):Ba9 (fun x=>∀ s,T5 (x.1 s) (J9 E k x.2 s)) (Db7 rt c)→da4 E k (vb6 rt c) c:=by
 induction rt generalizing c with
 | p=>intro h;cases c<;>exact .pc _
 | s a b iha ihb =>
  intro h
  cases c with
  | seq x y=>exact .seq (iha x (Ba9.app h).1) (ihb y (Ba9.app h).2)
  | _=>exact .pc _
 | c a b iha ihb =>
  intro h
  cases c with
  | cond g x y=>exact .cond g (iha x (Ba9.app h).1) (ihb y (Ba9.app h).2)
  | _=>exact .pc _
 | b a iha =>
  intro h
  cases c with
  | block id x=>exact .block id (iha x h)
  | _=>exact .pc _
 | l a iha=>intro h;cases c<;>exact .pc _
 | i a iha =>
  intro h
  cases c with
  | inner f x n c=>exact .inner f x n (iha c h)
  | _=>exact .pc _
 | u S =>
  intro h
  have:Db7 (.u S) c=[(S,c)]:=by cases c<;>rfl
  rw[this] at h
  cases h with
  | cons h t =>
   have e:vb6 (.u S) c=.sum S:=by cases c<;>rfl
   rw[e]
   exact .sum h
section
variable {π σ:Type} {E:Env} {k:Nat} {keep:List Nat} {alts:List (Al2 π σ)} {enc:π→σ→St} {step:π→σ→Stp σ} {xs:Xs π σ} {body:PS2} {c:PC}
theorem ub7.belowM (hb:da4 E k body c) (hN:E.N=rounds+1) (w:ub7 ld9 k keep (Zb0 E k body) alts step xs enc) (s:St):T5 (Qc1 ld9 k keep alts step xs s) (J9 E k (.loopM keep c) s):=fun r hr=>by
 obtain⟨t,h1,h2⟩:=w.go hr
 rw[yd2,hN]
 exact mb1 hb.le _ _ _ (Bb5 h1 h2)
theorem ub7.belowML (hb:da4 E k body c) (hN:E.N=rounds+1) (w:ub7 ub2 k keep (Zb0 E k body) alts step xs enc) (s:St):T5 (Qc1 ub2 k keep alts step xs s) (J9 E k (.loop keep c) s):=fun r hr=>by
 obtain⟨t,h1,h2⟩:=w.go hr
 rw[Qc0,hN]
 exact mb1 hb.le _ _ _ (Bb5 h1 h2)
end
end Go.Ev.L
namespace Go.Ev.Ab
open Go Go.Ev
@[reducible] def o (d:Nat) (x:PO):PI:=⟨some d,none,[],x⟩
@[reducible] def s (x:PO):PI:=⟨none,none,[],x⟩
@[reducible] def ci (n:Int):Arg:=.c (.v (.int .i64 n))
@[reducible] def cb (b:Bool):Arg:=.c (.v (.bool b))
@[reducible] def vi (n:Int):b7:=.v (.int .i64 n)
@[reducible] def rep {α:Type} (n:Nat) (x:α):List α:=List.replicate n x
@[reducible] def ki (n:Nat):List CK:=List.replicate n (.int .i64)
@[reducible] def mv (d n:Nat):PI:=o d (.mv (.t n))
@[reducible] def mc (d:Nat) (n:Int):PI:=o d (.mv (ci n))
@[reducible] def mb (d:Nat) (x:Bool):PI:=o d (.mv (cb x))
@[reducible] def fd (d k n:Nat):PI:=o d (.fld k (.t n))
@[reducible] def lf (d k n:Nat):PI:=o d (.load (ki k) k false (.t n))
@[reducible] def la (d k n:Nat):PI:=o d (.load (ki k) k true (.t n))
@[reducible] def ex (d x k:Nat):PI:=o d (.ext (.t x) k)
@[reducible] def gf (n:Nat) (x:PI):PI:=⟨x.dst,some (n,false),x.hide,x.op⟩
@[reducible] def so (l:List PI) (x:PC):PC:=.seq (.ops l) x
@[reducible] def sq (x y:PC):PC:=.seq x y
@[reducible] def ts (l:List Nat):List Arg:=l.map .t
@[reducible] def cl (f:Nat) (l:List Nat):PO:=.call f (ts l)
@[reducible] def sT (k a b:Nat):PI:=s (.store k (.t a) (.t b))
@[reducible] def pa (d c x:Nat):PI:=o d (.pick (.t c) (.t x) (cb false))
@[reducible] def po (d c x:Nat):PI:=o d (.pick (.t c) (cb true) (.t x))
@[reducible] def al (d k:Nat) (n:Int):PI:=o d (.alloc (rep k (vi n)))
@[reducible] def ap (d et es n x y:Nat):PI:=o d (.append et es n (.t x) (.t y))
end Go.Ev.Ab
namespace Go.Ev.L
open Go Go.Ev
def Cps {π σ:Type} (u:∀ {α:Type},(σ→α)→(Nat→α)→α→π→σ→α):Prop :=
 ∀ {α β:Type} (F:α→β) (k:σ→α) (e:Nat→α) (z:α) (p:π) (s:σ),F (u k e z p s)=u (fun x=>F (k x)) (fun t=>F (e t)) (F z) p s
@[reducible] noncomputable def foL {π σ:Type} (en:π→σ→St) (xs:Xs π σ) (p:π) (s:σ):Stp σ→Option (e7×St):=ub3 (fun s'=>some (.normal,en p s')) (fun t=>xOf xs p s t 1) none
structure Lo (π σ:Type) where
 E:Env
 k:Nat
 F:PFn
 at':List Nat
 kp:List Nat
 rt:RT
 al:List (Al2 π σ)
 st:π→σ→Stp σ
 xs:Xs π σ
 en:π→σ→St
namespace Lo
variable {π σ:Type} (L:Lo π σ)
noncomputable def lc:PC:=We0 L.at' L.F.body
noncomputable def ls:St→DT (e7×St):=Qc1 ub2 L.k L.kp L.al L.st L.xs
noncomputable def lsM:St→DT (e7×St):=Qc1 ld9 L.k L.kp L.al L.st L.xs
noncomputable def pr:(St→DT (e7×St))×PC:=(L.ls,.loop L.kp L.lc)
noncomputable def prM:(St→DT (e7×St))×PC:=(L.lsM,.loopM L.kp L.lc)
def Ok:Prop:=∀ s,Z3 L.k L.F.res (L.pr.1 s) (J9 L.E L.k L.pr.2 s)
def OkE:Prop:=∀ s,T5 (L.pr.1 s) (J9 L.E L.k L.pr.2 s)
def OkM:Prop:=∀ s,T5 (L.prM.1 s) (J9 L.E L.k L.prM.2 s)
def Rd (hd:St→DT St) (bd:St→DT (e7×St)) (p:π) (s:σ) (a:St) (b:Stp σ):Prop:=(mb2 hd bd a).run=foL L.en L.xs p s b
def H0:Prop:=∀ p s,L.Rd (ub2 L.k L.kp) (Dd2 L.E L.k L.F.res (Ic4 L.rt L.lc)) p s (L.en p s) (L.st p s)
def H1:Prop:=∀ p s,L.Rd (ub2 L.k L.kp) (Zb0 L.E L.k (vb6 L.rt L.lc)) p s (L.en p s) (L.st p s)
def H2:Prop:=∀ p s,L.Rd (ld9 L.k L.kp) (Zb0 L.E L.k (vb6 L.rt L.lc)) p s (L.en p s) (L.st p s)
def HA:Prop:=Ba9 (fun x=>∀ a H,(⟨Ld0 x.sh a,Ld1 x.bl H⟩:St)=L.en (x.rd a H).1 (x.rd a H).2) L.al
variable {L}
theorem Rd.of {hd : St → DT St} {bd : St → DT (e7 × St)} {p : π} {s : σ} {a : St} (u : ∀ {α : Type}, (σ → α) → (Nat → α) → α → π → σ → α)
  (q:Cps @u) (H:(mb2 hd bd a).run=u (fun x=>foL L.en L.xs p s (.next x)) (fun t=>foL L.en L.xs p s (.exit t)) (foL L.en L.xs p s .fail) p s):L.Rd hd bd p s a (u .next .exit .fail p s) :=
 H.trans (q (foL L.en L.xs p s) Stp.next Stp.exit Stp.fail p s).symm
theorem Rd.sel {hd:St→DT St} {bd:St→DT (e7×St)} {p:π} {s:σ} {a1 a0:St} {b1 b0:Stp σ} (c:Bool) (h1:L.Rd hd bd p s a1 b1) (h0:L.Rd hd bd p s a0 b0):L.Rd hd bd p s (sel c a1 a0) (sel c b1 b0):=by
 cases c with
 | true=>exact h1
 | false=>exact h0
theorem ok (l:List ((St→DT (e7×St))×PC)) (hs:Db7 L.rt L.lc=l) (hl:Ba9 (fun x=>∀ s,Z3 L.k L.F.res (x.1 s) (J9 L.E L.k x.2 s)) l) (hN:L.E.N=rounds+1) (ha:L.HA) (h:L.H0):L.Ok :=
 ub7.belowC (Ed2 _ _ (by rw[hs];exact hl)) hN ⟨ha,h⟩
theorem okE (l:List ((St→DT (e7×St))×PC)) (hs:Db7 L.rt L.lc=l) (hl:Ba9 (fun x=>∀ s,T5 (x.1 s) (J9 L.E L.k x.2 s)) l) (hN:L.E.N=rounds+1) (ha:L.HA) (h:L.H1):L.OkE :=
 ub7.belowML (Yc6 _ _ (by rw[hs];exact hl)) hN ⟨ha,h⟩
theorem okM (l:List ((St→DT (e7×St))×PC)) (hs:Db7 L.rt L.lc=l) (hl:Ba9 (fun x=>∀ s,T5 (x.1 s) (J9 L.E L.k x.2 s)) l) (hN:L.E.N=rounds+1) (ha:L.HA) (h:L.H2):L.OkM :=
 ub7.belowM (Yc6 _ _ (by rw[hs];exact hl)) hN ⟨ha,h⟩
end Lo
theorem Qa3 {E : Env} {F : PFn} {args : List b7} {blks : List b9} {o : Option (b7 × List b9)} (rt : RT) (l : List ((St → DT (e7 × St)) × PC)) (hs : Db7 rt F.body = l)
  (hl:Ba9 (fun x=>∀ s,Z3 (len blks) F.res (x.1 s) (J9 E (len blks) x.2 s)) l) (h:(Me8 E F (Ic4 rt F.body) args blks).run=o) (r:b7×List b9) (hr:o=some r):(m8 E F args blks).run=some r :=
 wd6 (Ed2 rt _ (by rw[hs];exact hl)) r (h.trans hr)
theorem md1 {E : Env} {F : PFn} {args : List b7} {blks : List b9} {o : Option (b7 × List b9)} (rt : RT) (l : List ((St → DT (e7 × St)) × PC)) (hs : Db7 rt F.body = l)
  (hl:Ba9 (fun x=>∀ s,T5 (x.1 s) (J9 E (len blks) x.2 s)) l) (h:(ze9 E F (vb6 rt F.body) args blks).run=o) (r:b7×List b9) (hr:o=some r):(mb6 E F args blks).run=some r :=
 ld8 (Yc6 rt _ (by rw[hs];exact hl)) r (h.trans hr)
theorem A4 {A o:Option (b7×List b9)} (h:A=o) (r:b7×List b9) (hr:o=some r):A=some r:=h.trans hr
end Go.Ev.L
namespace Go.Ev.Ce
structure V3 where
 x:Int
 y:Int
 z:Int
structure Pln where
 n:V3
 b:Int
structure Pt where
 px:Int
 py:Int
 pz:Int
 pw:Int
def d8 (a b:V3):V3:=⟨a.y*b.z - a.z*b.y,a.z*b.x - a.x*b.z,a.x*b.y - a.y*b.x⟩
def dot (a b:V3):Int:=a.x*b.x+a.y*b.y+a.z*b.z
def mw (p q r:Pln):Int:=dot p.n (d8 q.n r.n)
end Go.Ev.Ce
namespace Go.Ev.Ce
open Go Go.Ev Go.Ev.L Go.Proofs
@[reducible] noncomputable def prog:Program:=Tryz.prog
noncomputable def G:Nat→List Value:=fun _=>[]
noncomputable def En (l:List (Nat×Sum)):Env:={ P:=prog,G,fns:=fun _=>none,call:=Ee3 l,own:=fun f j=>Bool.and (La0 f [150,121,154,91,139,144,146,148]) (Nat.beq j 0),N:=18446744073709551616 }
@[reducible] def u:b7:=.v (.tuple #[])
theorem Re6 {l:List (Nat×Sum)} (h:j7 prog G l):∀ f,g8 (En l).P (En l).G f ((En l).call f):=Dd1 h
theorem bd {l:List (Nat×Sum)} {f:FuncId} {R:Env→Sum} (b:C7 prog f R) (h:j7 prog G l):g8 prog G f (R (En l)):=b rfl (Re6 h)
noncomputable def tV:Ty V3 where
 es:=3
 row x:=[i x.x,i x.y,i x.z]
 rd r:=⟨toI (hdA r),toI (hdA (tlA r)),toI (hdA (tlA (tlA r)))⟩
 ok r:=za3 3 r
 cks:=List.replicate 3 (.int .i64)
 d:=⟨0,0,0⟩
 h0 _:=rfl
 h1 _:=rfl
 h2 _:=rfl
 h3 _ h:=.of (Ta1 h)
 h4 _:=rfl
 h5 _:=rfl
noncomputable def r1V:R1 V3:=r1A tV 3 fun _ h=>h
noncomputable def tP:Ty Pln where
 es:=4
 row x:=[i x.n.x,i x.n.y,i x.n.z,i x.b]
 rd r:=⟨⟨toI (hdA r),toI (hdA (tlA r)),toI (hdA (tlA (tlA r)))⟩,toI (hdA (tlA (tlA (tlA r))))⟩
 ok r:=za3 4 r
 cks:=List.replicate 4 (.int .i64)
 d:=⟨⟨0,0,0⟩,0⟩
 h0 _:=rfl
 h1 _:=rfl
 h2 _:=rfl
 h3 _ h:=.of (Ta1 h)
 h4 _:=rfl
 h5 _:=rfl
noncomputable def r1P:R1 Pln:=r1A tP 4 fun _ h=>h
structure Tp where
 p:Pln
 q:Pln
 r:Pln
structure Q2 where
 a:V3
 b:V3
end Go.Ev.Ce
section
namespace Go.Ev.Ce
open Go Go.Ev Go.Ev.L Go.Proofs
set_option maxRecDepth 100000
noncomputable def yd3:List (Nat×Sum):=[]
theorem md2:j7 prog G yd3:=trivial
noncomputable def Cb1 (x:V3) (y:V3):V3:=(⟨(W (x.x+y.x)),(W (x.y+y.y)),(W (x.z+y.z))⟩:V3)
noncomputable def Rc1:Sum:=pa4 (R7 tV) (R7 tV) (fun x y=>.ret ((one r1V).enc (Cb1 x y),[]))
theorem yd4:g8 prog G 80 Rc1:=sa5 (bd b80 md2) fun x y=>A4 (by kernel_rfl)
noncomputable def yd5:List (Nat×Sum):=[]
theorem md3:j7 prog G yd5:=trivial
noncomputable def Ga6 (x:V3) (y:V3):Int:=(W ((W ((W (x.x*y.x))+(W (x.y*y.y))))+(W (x.z*y.z))))
noncomputable def Zb1:Sum:=pa4 (R7 tV) (R7 tV) (fun x y=>.ret ((one r1I).enc (Ga6 x y),[]))
theorem yc0:g8 prog G 84 Zb1:=sa5 (bd b84 md3) fun x y=>A4 (by kernel_rfl)
noncomputable def Yc7:List (Nat×Sum):=[]
theorem Ic6:j7 prog G Yc7:=trivial
noncomputable def La3 (x:V3) (y:V3):V3:=(⟨(W ((W (x.y*y.z)) - (W (x.z*y.y)))),(W ((W (x.z*y.x)) - (W (x.x*y.z)))),(W ((W (x.x*y.y)) - (W (x.y*y.x))))⟩:V3)
noncomputable def hc9:Sum:=pa4 (R7 tV) (R7 tV) (fun x y=>.ret ((one r1V).enc (La3 x y),[]))
theorem Yc8:g8 prog G 164 hc9:=sa5 (bd af5 Ic6) fun x y=>A4 (by kernel_rfl)
structure Zd1 where
structure Zd2 where
 is0:Int
 is1:Int
structure Ge5 where
 n5:List Pln
 c9:Int
 c7:Int
 d7:Int
 i9:Int
structure Ge6 where
 is5:Int
structure ke5 where
 Vc3:List Pt
 c9:Int
 c7:Int
 d7:Int
 i9:Int
structure ke6 where
 is5:Int
structure Rd0 where
 n5:List Pln
 is4:Int
 is5:Int
structure Rd1 where
 ph:Nat
 is6:Int
 ns3:Nat
 eh0:List (List b7)
structure Rd2 where
 is4:Int
structure Rd3 where
 ph:Nat
 n5:List Pln
 is5:Int
 ns3:Nat
 eh0:List (List b7)
structure Rd4 where
structure Rd5 where
 ph:Nat
 n5:List Pln
 is4:Int
 ns3:Nat
 eh0:List (List b7)
noncomputable def bb8:List (Nat×Sum):=[]
theorem Kb6:j7 prog G bb8:=trivial
@[reducible] noncomputable def sa6:Sum:=m8 (En bb8) Ae5
theorem Ca0:g8 prog G 191 sa6:=bd bf5 Kb6
noncomputable def kc1:List (Nat×Sum):=[]
theorem Zb2:j7 prog G kc1:=trivial
noncomputable def pa7 (x:Int):Option (b7×List b9):=(sl (decide (x < 0)) (some ((i (W (0 - x))),[])) (some ((i x),[])))
noncomputable def ja1 (x:Int):Int:=Y8 (one r1I) (pa7 x)
noncomputable def ja2 (x:Int):Bool:=okO (one r1I) (pa7 x)
noncomputable def vb7:Sum:=Y7 cI (fun x=>.guard (ja2 x) (.ret ((one r1I).enc (ja1 x),[])))
theorem kc2:g8 prog G 184 vb7:=Ua5 (bd bf1 Zb2) (one r1I) (o:=pa7) fun x=>A4 (by kernel_rfl)
noncomputable def ic0:List (Nat×Sum):=[(184,vb7),(191,sa6)]
theorem Yc9:j7 prog G ic0:=⟨kc2,Ca0,trivial⟩
structure fa0 where
 is6:Int
 c9:Int
 c7:Int
 d7:Int
 ia4:Int
 ia5:Int
 ia6:Int
structure M8 where
 is5:Int
 is7:Int
noncomputable def Ic7 (p:fa0) (s:M8):St:=⟨(.unk::((.ptr 0 0 0 0)::((.ptr 1 0 0 0)::(.unk::((.ptr 2 0 0 0)::((i s.is5)::((i p.is6)::((i s.is7)::(ra 38 []))))))))),[⟨0,3,[[(i p.c9),(i p.c7),(i p.d7)]],true,false,0⟩,⟨0,3,[[(i 0),(i 0),(i 0)]],true,false,0⟩,⟨0,3,[[(i p.ia4),(i p.ia5),(i p.ia6)]],true,false,0⟩]⟩
noncomputable def pa8 {α:Type} (k:M8→α) (e:Nat→α) (z:α) (p:fa0) (s:M8):α:=(sl (decide (s.is7 > 0)) (sl (s.is7==0) z (k ⟨s.is7,(Int.tmod s.is5 s.is7)⟩)) (e 1))
noncomputable def aa5 (p:fa0) (s:M8):Stp M8:=pa8 .next .exit .fail p s
noncomputable def mb9:Lo fa0 M8:=⟨En ic0,0,Ae3,[1,1,1,0,1,4,4,1,0,4,1,1,4,4],[1,2,4,5,6,7],.p,[⟨((.s (.o .unk))::((.s (.o (.ptr 0 0 0 0)))::((.s (.o (.ptr 1 0 0 0)))::((.s (.o .unk))::((.s (.o (.ptr 2 0 0 0)))::((.s (.o (.int .i64)))::((.s (.o (.int .i64)))::((.s (.o (.int .i64)))::(ru2 38 []))))))))),[⟨0,3,true,(some [[(.o (.int .i64)),(.o (.int .i64)),(.o (.int .i64))]])⟩,⟨0,3,true,(some [[(.o (.lit .i64 0)),(.o (.lit .i64 0)),(.o (.lit .i64 0))]])⟩,⟨0,3,true,(some [[(.o (.int .i64)),(.o (.int .i64)),(.o (.int .i64))]])⟩],fun a H=>(⟨(toI (slT a 6)),(toI (slT (rwT (elT H 0) 0) 0)),(toI (slT (rwT (elT H 0) 0) 1)),(toI (slT (rwT (elT H 0) 0) 2)),(toI (slT (rwT (elT H 2) 0) 0)),(toI (slT (rwT (elT H 2) 0) 1)),(toI (slT (rwT (elT H 2) 0) 2))⟩,⟨(toI (slT a 5)),(toI (slT a 7))⟩)⟩],aa5,[(some 2,fun p s=>⟨(.unk::((.ptr 0 0 0 0)::((.ptr 1 0 0 0)::(.unk::((.ptr 2 0 0 0)::((i s.is5)::((i p.is6)::((i s.is7)::(ra 15 ((i s.is7)::((b (decide (s.is7 > 0)))::(ra 21 [])))))))))))),[⟨0,3,[[(i p.c9),(i p.c7),(i p.d7)]],true,false,0⟩,⟨0,3,[[(i 0),(i 0),(i 0)]],true,false,0⟩,⟨0,3,[[(i p.ia4),(i p.ia5),(i p.ia6)]],true,false,0⟩]⟩)],Ic7⟩
theorem Ic8:mb9.Ok:=Lo.ok [] (by kernel_rfl) .nil rfl (.cons (fun a H=>by kernel_rfl) .nil) fun p s=>(.of @pa8 (fun F _ _ _ _ _=>by unfold pa8;(repeat' apply n7 (f:=F))<;>rfl) (by kernel_rfl))
noncomputable def Va2 (x:V3):Option (b7×List b9):=let t1:=(ja1 x.x);let t2:=(lp (aa5 (⟨0,x.x,x.y,x.z,x.x,x.y,x.z⟩:fa0)) (⟨0,t1⟩:M8));let t3:=(ja1 x.y);let t4:=(lp (aa5 (⟨1,x.x,x.y,x.z,x.x,x.y,x.z⟩:fa0)) (⟨t2.2.is5,t3⟩:M8));let t5:=(ja1 x.z);let t6:=(lp (aa5 (⟨2,x.x,x.y,x.z,x.x,x.y,x.z⟩:fa0)) (⟨t4.2.is5,t5⟩:M8));(sl (x.x==(-9223372036854775808)) (some ((.tup [(.agg [(i 0),(i 0),(i 0)]),(i 0)]),[])) (sl (ja2 x.x) (sl (Nat.beq t2.1 1) (sl (x.y==(-9223372036854775808)) (some ((.tup [(.agg [(i 0),(i 0),(i 0)]),(i 0)]),[])) (sl (ja2 x.y) (sl (Nat.beq t4.1 1) (sl (x.z==(-9223372036854775808)) (some ((.tup [(.agg [(i 0),(i 0),(i 0)]),(i 0)]),[])) (sl (ja2 x.z) (sl (Nat.beq t6.1 1) (sl (t6.2.is5==0) (some ((.tup [(.agg [(i 0),(i 0),(i 0)]),(i 0)]),[])) (sl (t6.2.is5==0) none (sl (t6.2.is5==0) none (sl (t6.2.is5==0) none (some ((.tup [(.agg [(i (W (Int.tdiv x.x t6.2.is5))),(i (W (Int.tdiv x.y t6.2.is5))),(i (W (Int.tdiv x.z t6.2.is5)))]),(i t6.2.is5)]),[])))))) none) none)) none) none)) none) none))
noncomputable def za5 (x:V3):V3×Int:=Y8 (two r1V r1I) (Va2 x)
noncomputable def Va3 (x:V3):Bool:=okO (two r1V r1I) (Va2 x)
noncomputable def Kb7:Sum:=Y7 (R7 tV) (fun x=>.guard (Va3 x) (.ret ((two r1V r1I).enc (za5 x),[])))
theorem ic1:g8 prog G 163 Kb7:=Ua5 (bd af4 Yc9) (two r1V r1I) (o:=Va2) fun x=>Qa3 (.s .p (.s .p (.s .p (.s (.s .p (.b (.l (.s .p (.s (.b (.s .p (.s .p (.b (.u mb9.ls))))) .p))))) .p)))) [mb9.pr] (by kernel_rfl) (.cons Ic8 .nil) (by kernel_rfl)
noncomputable def Zc0:List (Nat×Sum):=[(163,Kb7),(191,sa6)]
theorem Ic9:j7 prog G Zc0:=⟨ic1,Ca0,trivial⟩
noncomputable def La4 (x:Pln):Option (b7×List b9):=let t1:=(za5 x.n);(sl (decide (x.n.x < (-4608))) (some ((b false),[])) (sl (decide (x.n.x > 4608)) (some ((b false),[])) (sl (decide (x.n.y < (-4608))) (some ((b false),[])) (sl (decide (x.n.y > 4608)) (some ((b false),[])) (sl (decide (x.n.z < (-4608))) (some ((b false),[])) (sl (decide (x.n.z > 4608)) (some ((b false),[])) (sl (Va3 x.n) (sl (t1.2==1) (sl (decide (x.b≥(-2097152))) (some ((b (decide (x.b≤2097152))),[])) (some ((b false),[]))) (some ((b false),[]))) none)))))))
noncomputable def bb9 (x:Pln):Bool:=Y8 (one r1B) (La4 x)
noncomputable def cb0 (x:Pln):Bool:=okO (one r1B) (La4 x)
noncomputable def ic2:Sum:=Y7 (R7 tP) (fun x=>.guard (cb0 x) (.ret ((one r1B).enc (bb9 x),[])))
theorem Zc1:g8 prog G 156 ic2:=Ua5 (bd af2 Ic9) (one r1B) (o:=La4) fun x=>A4 (by kernel_rfl)
structure ke7 where
 n5:List Pln
structure ke8 where
 is3:Int
structure qe8 where
 n5:List Pln
 ke4:List Pt
 is4:Int
structure qe9 where
 bs5:Bool
 is6:Int
structure re0 where
structure re1 where
 n5:List Pln
 ke4:List Pt
 is4:Int
noncomputable def yd6:List (Nat×Sum):=[]
theorem md4:j7 prog G yd6:=trivial
noncomputable def hb9 (x:Int) (y:Int):Option (b7×List b9):=(sl (decide (y < 1)) (some ((i 0),[])) (sl (y==0) none (sl (y==0) none (some ((i (Int.tmod (W ((Int.tmod x y)+y)) y)),[])))))
noncomputable def Cb2 (x:Int) (y:Int):Int:=Y8 (one r1I) (hb9 x y)
noncomputable def Cb3 (x:Int) (y:Int):Bool:=okO (one r1I) (hb9 x y)
noncomputable def Rc2:Sum:=pa4 cI cI (fun x y=>.guard (Cb3 x y) (.ret ((one r1I).enc (Cb2 x y),[])))
theorem yd7:g8 prog G 27 Rc2:=ub6 (bd b27 md4) (one r1I) (o:=hb9) fun x y=>A4 (by kernel_rfl)
end Go.Ev.Ce
end
section
namespace Go.Ev.Ce
open Go Go.Ev Go.Ev.L Go.Proofs
set_option maxRecDepth 100000
noncomputable def Zc2:List (Nat×Sum):=[]
theorem Jc0:j7 prog G Zc2:=trivial
noncomputable def z8 (x:V3) (y:V3):Int:=(W ((W ((W (x.x*y.x))+(W (x.y*y.y))))+(W (x.z*y.z))))
noncomputable def La5:Sum:=pa4 (R7 tV) (R7 tV) (fun x y=>.ret ((one r1I).enc (z8 x y),[]))
theorem Qa4:g8 prog G 83 La5:=sa5 (bd b83 Jc0) fun x y=>A4 (by kernel_rfl)
noncomputable def Zc3:List (Nat×Sum):=[]
theorem Jc1:j7 prog G Zc3:=trivial
noncomputable def e8 (x:V3) (y:V3):V3:=(⟨(W (x.x+y.x)),(W (x.y+y.y)),(W (x.z+y.z))⟩:V3)
noncomputable def vb8:Sum:=pa4 (R7 tV) (R7 tV) (fun x y=>.ret ((one r1V).enc (e8 x y),[]))
theorem Qb7:g8 prog G 34 vb8:=sa5 (bd b34 Jc1) fun x y=>A4 (by kernel_rfl)
noncomputable def yc1:List (Nat×Sum):=[]
theorem kc3:j7 prog G yc1:=trivial
noncomputable def aa6 (x:V3) (y:V3):V3:=(⟨(W ((W (x.y*y.z)) - (W (x.z*y.y)))),(W ((W (x.z*y.x)) - (W (x.x*y.z)))),(W ((W (x.x*y.y)) - (W (x.y*y.x))))⟩:V3)
noncomputable def eb1:Sum:=pa4 (R7 tV) (R7 tV) (fun x y=>.ret ((one r1V).enc (aa6 x y),[]))
theorem vb9:g8 prog G 142 eb1:=sa5 (bd Ze7 kc3) fun x y=>A4 (by kernel_rfl)
structure re2 where
 Fa5:List Int
 is7:Int
 is8:Int
structure re3 where
 is3:Int
 is5:Int
structure re4 where
 is7:Int
structure re5 where
 is3:Int
 Fa5:List Int
 is8:Int
structure Rd6 where
 da0:Int
 da1:Int
 da2:Int
 Ib5:Int
 c9:Int
 c7:Int
 d7:Int
 i9:Int
structure Rd7 where
 bs0:Bool
structure Gc2 where
 n5:List Pln
 c9:Int
 c7:Int
 d7:Int
 i9:Int
structure qc7 where
 n5:List Pln
 is7:Int
 c9:Int
 c7:Int
 d7:Int
 i9:Int
structure qc8 where
 is8:Int
structure Gc3 where
 alt:Nat
 is0:Int
structure kc4 where
 n5:List Pln
 c9:Int
 c7:Int
 d7:Int
 i9:Int
structure kc5 where
 alt:Nat
 bs0:Bool
structure ib0 where
 is3:Int
 Ce7:List Pln
 r8:Int
 sd8:Int
 Ue4:Nat
 Ue5:Nat→List b7
 Le6:Int
 df3:Int
 df4:Nat
 df5:Nat→List b7
 df6:Int
 q7:List Pln
 s6:Int
 s7:Int
 s8:Int
 Wb6:Int
 ia4:Int
 ia5:Int
 ia6:Int
 ze1:Int
 Qd0:List Pln
structure Rc3 where
 ph:Nat
 ef2:Int
 Ue6:Nat
 eh6:List (List b7)
 eh7:List (List b7)
structure ib1 where
 is3:Int
 r8:Int
 sd8:Int
 Ue4:Nat
 Ue5:Nat→List b7
 Le6:Int
 s6:Int
 s7:Int
 s8:Int
 Wb6:Int
structure Rc4 where
 ph:Nat
 Ce7:List Pln
 df3:Int
 q7:List Pln
 Me0:List Pln
 w7:Nat
 eh5:List (List b7)
 eh6:List (List b7)
structure Rc5 where
 r8:Int
structure Rc6 where
 ph:Nat
 Ce7:List Pln
 sd8:Int
 q7:List Pln
 q8:List Pln
 ze2:Nat
 eh4:List (List b7)
 eh5:List (List b7)
end Go.Ev.Ce
end
section
namespace Go.Ev.Ce
open Go Go.Ev Go.Ev.L Go.Proofs
set_option maxRecDepth 100000
noncomputable def pb1:List (Nat×Sum):=[]
theorem Zb3:j7 prog G pb1:=trivial
structure ja3 where
 is0:Int
 sd9:List Int
 is8:Int
structure I0 where
 is9:Int
noncomputable def Qb8 (p:ja3) (s:I0):St:=⟨((i p.is0)::(ra 6 ((eL tI p.sd9)::((i p.is8)::((i s.is9)::(ra 13 [])))))),[]⟩
noncomputable def ca0 {α:Type} (k:I0→α) (e:Nat→α) (z:α) (p:ja3) (s:I0):α:=(sl (decide (s.is9 < p.is8)) (sl (inB s.is9 (List.length p.sd9)) (sl (decide ((gL tI p.sd9 s.is9.toNat) < (W (0 - p.is0)))) (e 1) (sl (decide ((gL tI p.sd9 s.is9.toNat) > p.is0)) (e 1) (k ⟨(W (s.is9+1))⟩))) z) (e 2))
noncomputable def fa1 (p:ja3) (s:I0):Stp I0:=ca0 .next .exit .fail p s
noncomputable def Ga7:Lo ja3 I0:=⟨En pb1,0,Ae2,[1,0,1,4,4],[0,7,8,9],.p,[⟨((.s (.o (.int .i64)))::(ru2 6 ((.s (.c 1 (nL tI)))::((.s (.o (.int .i64)))::((.s (.o (.int .i64)))::(ru2 13 [])))))),[],fun a H=>(⟨(toI (slT a 0)),(rL tI (slT a 7)),(toI (slT a 8))⟩,⟨(toI (slT a 9))⟩)⟩],fa1,[(none,fun p s=>⟨[(b false)],[]⟩),(some 0,fun p s=>⟨((i p.is0)::(ra 6 ((eL tI p.sd9)::((i p.is8)::((i s.is9)::((b (decide (s.is9 < p.is8)))::(ra 12 []))))))),[]⟩)],Qb8⟩
theorem Qb9:Ga7.Ok:=Lo.ok [] (by kernel_rfl) .nil rfl (.cons (fun a H=>by kernel_rfl) .nil) fun p s=>(.of @ca0 (fun F _ _ _ _ _=>by unfold ca0;(repeat' apply n7 (f:=F))<;>rfl) (by kernel_rfl))
noncomputable def pa9 (x:Int) (y:List Int):Option (b7×List b9):=let t1:=(lp (fa1 (⟨x,(rt tI y),(↑(List.length y):Int)⟩:ja3)) (⟨0⟩:I0));(sl ((cnE tI y)&&true) (sl (Nat.beq t1.1 1) (some ((b false),[])) (sl (Nat.beq t1.1 2) (some ((b true),[])) none)) none)
noncomputable def K2 (x:Int) (y:List Int):Bool:=Y8 (one r1B) (pa9 x y)
noncomputable def K3 (x:Int) (y:List Int):Bool:=okO (one r1B) (pa9 x y)
noncomputable def Ca1:Sum:=pa4 cI (Ba0 tI) (fun x y=>.guard (K3 x y) (.ret ((one r1B).enc (K2 x y),[])))
theorem Na0:g8 prog G 138 Ca1:=ub6 (bd Ze4 Zb3) (one r1B) (o:=pa9) fun x y=>Qa3 (.s .p (.s (.s .p (.b (.u Ga7.ls))) .p)) [Ga7.pr] (by kernel_rfl) (.cons Qb9 .nil) (by kernel_rfl)
noncomputable def Rb0:List (Nat×Sum):=[]
theorem Kb8:j7 prog G Rb0:=trivial
noncomputable def R8 (x:Int):Int:=(if (W (0 - x)) > x then (W (0 - x)) else x)
noncomputable def Ga8:Sum:=Y7 cI (fun x=>.ret ((one r1I).enc (R8 x),[]))
theorem cb1:g8 prog G 183 Ga8:=Bb6 (bd bf0 Kb8) fun x=>A4 (by kernel_rfl)
noncomputable def Ga9:List (Nat×Sum):=[(183,Ga8)]
theorem Rb1:j7 prog G Ga9:=⟨cb1,trivial⟩
structure V6 where
 Fa5:List Int
 is7:Int
 is8:Int
structure J7 where
 is3:Int
 is5:Int
noncomputable def Kb9 (p:V6) (s:J7):St:=⟨(ra 3 ((i s.is3)::(.unk::((i s.is5)::((eL tI p.Fa5)::((i p.is7)::((i p.is8)::(ra 15 [])))))))),[]⟩
noncomputable def Y9 {α:Type} (k:J7→α) (e:Nat→α) (z:α) (p:V6) (s:J7):α:=(sl (decide (s.is5 > 0)) (sl (s.is5==0) z (k ⟨s.is5,(Int.tmod s.is3 s.is5)⟩)) (e 1))
noncomputable def R9 (p:V6) (s:J7):Stp J7:=Y9 .next .exit .fail p s
noncomputable def Ca2:Lo V6 J7:=⟨En Ga9,0,Zd0,[1,1,0,1,4,4,1,1,0,4,1,1,1,4,4],[3,5,6,7,8],.p,[⟨(ru2 3 ((.s (.o (.int .i64)))::((.s (.o .unk))::((.s (.o (.int .i64)))::((.s (.c 1 (nL tI)))::((.s (.o (.int .i64)))::((.s (.o (.int .i64)))::(ru2 15 [])))))))),[],fun a H=>(⟨(rL tI (slT a 6)),(toI (slT a 7)),(toI (slT a 8))⟩,⟨(toI (slT a 3)),(toI (slT a 5))⟩)⟩],R9,[(some 2,fun p s=>⟨(ra 3 ((i s.is3)::(.unk::((i s.is5)::((eL tI p.Fa5)::((i p.is7)::((i p.is8)::(ra 7 ((i s.is5)::((b (decide (s.is5 > 0)))::(ra 6 []))))))))))),[]⟩)],Kb9⟩
theorem Lb0:Ca2.Ok:=Lo.ok [] (by kernel_rfl) .nil rfl (.cons (fun a H=>by kernel_rfl) .nil) fun p s=>(.of @Y9 (fun F _ _ _ _ _=>by unfold Y9;(repeat' apply n7 (f:=F))<;>rfl) (by kernel_rfl))
structure fa2 where
 is7:Int
structure D8 where
 is3:Int
 Fa5:List Int
 is8:Int
noncomputable def Lb1 (p:fa2) (s:D8):St:=⟨(ra 3 ((i s.is3)::(.unk::(.unk::((eL tI s.Fa5)::((i p.is7)::((i s.is8)::(ra 15 [])))))))),[]⟩
noncomputable def Z0 {α:Type} (k:D8→α) (e:Nat→α) (z:α) (p:fa2) (s:D8):α:=let t1:=(R8 (gL tI s.Fa5 s.is8.toNat));let t2:=(lp (R9 (⟨(rt tI s.Fa5),p.is7,s.is8⟩:V6)) (⟨s.is3,t1⟩:J7));(sl (decide (s.is8 < p.is7)) (sl (inB s.is8 (List.length s.Fa5)) (sl ((gL tI s.Fa5 s.is8.toNat)==(-9223372036854775808)) (e 1) (sl ((cnE tI s.Fa5)&&true) (sl (Nat.beq t2.1 1) (k ⟨t2.2.is3,(rt tI s.Fa5),(W (s.is8+1))⟩) z) z)) z) (e 2))
noncomputable def ca1 (p:fa2) (s:D8):Stp D8:=Z0 .next .exit .fail p s
noncomputable def Ca3:Lo fa2 D8:=⟨En Ga9,0,Zd0,[1,1,0,1,4,4],[3,6,7,8],(.s .p (.s .p (.s (.b (.s .p (.s .p (.s .p (.b (.u Ca2.ls)))))) .p))),[⟨(ru2 3 ((.s (.o (.int .i64)))::((.s (.o .unk))::((.s (.o .unk))::((.s (.c 1 (nL tI)))::((.s (.o (.int .i64)))::((.s (.o (.int .i64)))::(ru2 15 [])))))))),[],fun a H=>(⟨(toI (slT a 7))⟩,⟨(toI (slT a 3)),(rL tI (slT a 6)),(toI (slT a 8))⟩)⟩],ca1,[(none,fun p s=>⟨[(i 0)],[]⟩),(some 0,fun p s=>⟨(ra 3 ((i s.is3)::(.unk::(.unk::((eL tI s.Fa5)::((i p.is7)::((i s.is8)::((b (decide (s.is8 < p.is7)))::(ra 14 []))))))))),[]⟩)],Lb1⟩
theorem Lb2:Ca3.Ok:=Lo.ok [Ca2.pr] (by kernel_rfl) (.cons Lb0 .nil) rfl (.cons (fun a H=>by kernel_rfl) .nil) fun p s=>(.of @Z0 (fun F _ _ _ _ _=>by unfold Z0;(repeat' apply n7 (f:=F))<;>rfl) (by kernel_rfl))
noncomputable def la3 (x:List Int):Option (b7×List b9):=let t1:=(lp (ca1 (⟨(↑(List.length x):Int)⟩:fa2)) (⟨0,(rt tI x),0⟩:D8));(sl ((cnE tI x)&&true) (sl (Nat.beq t1.1 1) (some ((i 0),[])) (sl (Nat.beq t1.1 2) (some ((i t1.2.is3),[])) none)) none)
noncomputable def Y1 (x:List Int):Int:=Y8 (one r1I) (la3 x)
noncomputable def Y2 (x:List Int):Bool:=okO (one r1I) (la3 x)
noncomputable def Na1:Sum:=Y7 (Ba0 tI) (fun x=>.guard (Y2 x) (.ret ((one r1I).enc (Y1 x),[])))
theorem ib2:g8 prog G 186 Na1:=Ua5 (bd bf2 Rb1) (one r1I) (o:=la3) fun x=>Qa3 (.s .p (.s .p (.s (.s .p (.b (.u Ca3.ls))) .p))) [Ca3.pr] (by kernel_rfl) (.cons Lb2 .nil) (by kernel_rfl)
noncomputable def yc2:List (Nat×Sum):=[(138,Ca1),(186,Na1)]
theorem kc6:j7 prog G yc2:=⟨Na0,ib2,trivial⟩
noncomputable def va2 (x:Pln):Option (b7×List b9):=let t1:=(K2 4608 [x.n.x,x.n.y,x.n.z]);let t2:=(Y1 [x.n.x,x.n.y,x.n.z]);let t3:=(K2 2097152 [x.b]);(sl (K3 4608 [x.n.x,x.n.y,x.n.z]) (sl t1 (sl (Y2 [x.n.x,x.n.y,x.n.z]) (sl (t2==1) (sl (K3 2097152 [x.b]) (some ((b t3),[])) none) (some ((b false),[]))) none) (some ((b false),[]))) none)
noncomputable def va3 (x:Pln):Bool:=Y8 (one r1B) (va2 x)
noncomputable def va4 (x:Pln):Bool:=okO (one r1B) (va2 x)
noncomputable def eb2:Sum:=Y7 (R7 tP) (fun x=>.guard (va4 x) (.ret ((one r1B).enc (va3 x),[])))
theorem wb0:g8 prog G 140 eb2:=Ua5 (bd Ze5 kc6) (one r1B) (o:=va2) fun x=>A4 (by kernel_rfl)
structure Gc4 where
 n5:List Pln
structure qc9 where
 n5:List Pln
 is7:Int
structure rc0 where
 is8:Int
structure Gc5 where
 alt:Nat
 is0:Int
structure kc7 where
 n5:List Pln
structure kc8 where
 alt:Nat
 bs0:Bool
end Go.Ev.Ce
end
namespace Go.Proofs
open Go.Shelf
set_option maxRecDepth 100000 in
def Ce.growP_ren:Go.Shelf.Ren:=⟨fun | 4=>193 | n=>n,fun | 22=>24 | 25=>73 | 3=>3 | 4=>4 | 9=>9 | 20=>20 | 0=>0 | n=>n,fun | n=>n⟩
end Go.Proofs
namespace Go.Ev.Ce
open Go Go.Ev Go.Proofs
noncomputable def bf9:List b7:=[i 0,i 0,i 0,i 0]
theorem t25:Ce.growP_ren.t 25=73:=by kernel_rfl
theorem f4:Ce.growP_ren.f 4=193:=by kernel_rfl
end Go.Ev.Ce
section
namespace Go.Ev.Ce
open Go Go.Ev Go.Ev.L Go.Proofs
set_option maxRecDepth 100000
structure Rc7 where
 Bd7:List (List Pln)
 df7:List (List Pln)
 r8:Int
structure Rc8 where
 is3:Int
 sd8:Int
structure Rc9 where
 Ue7:List (List Pln)
 ef3:Int
structure Sc0 where
 ph:Nat
 ef4:Int
 ns6:Nat
 eh0:List (List b7)
structure ed6 where
 alt:Nat
 ns0:Nat
 eh0:List (List b7)
structure Gc6 where
 Bd7:List (List Pln)
structure rc1 where
 Bd7:List (List Pln)
 is7:Int
structure rc2 where
 is8:Int
structure Gc7 where
 alt:Nat
 is0:Int
structure kc9 where
 Bd7:List (List Pln)
structure lc0 where
 alt:Nat
 bs0:Bool
structure Zc4 where
 da0:Int
 da1:Int
 da2:Int
 Ib5:Int
 c9:Int
 c7:Int
 d7:Int
 i9:Int
structure Zc5 where
 bs0:Bool
structure Jc2 where
 Vc3:List Pt
 c9:Int
 c7:Int
 d7:Int
 i9:Int
structure yc3 where
 Vc3:List Pt
 is7:Int
 c9:Int
 c7:Int
 d7:Int
 i9:Int
structure yc4 where
 is8:Int
structure Jc3 where
 alt:Nat
 is0:Int
structure rc3 where
 Vc3:List Pt
 c9:Int
 c7:Int
 d7:Int
 i9:Int
structure rc4 where
 alt:Nat
 bs0:Bool
structure md5 where
 da0:Int
 da1:Int
 da2:Int
 Ib5:Int
 ba6:List Pt
structure md6 where
 alt:Nat
 bs0:Bool
structure Gc8 where
 n5:List Pln
 ba6:List Pt
structure rc5 where
 n5:List Pln
 is7:Int
structure rc6 where
 is8:Int
 ba6:List Pt
structure Gc9 where
 alt:Nat
 is0:Int
 ba6:List Pt
structure lc1 where
 n5:List Pln
 ba6:List Pt
structure lc2 where
 alt:Nat
 bs0:Bool
 ba6:List Pt
structure Zd3 where
 df8:List Pt
 gc5:Int
structure Zd4 where
 Le6:Int
 ia4:Int
 ia5:Int
 ia6:Int
 Ue8:Int
 Ue9:Int
 Ve0:Int
end Go.Ev.Ce
end
section
namespace Go.Ev.Ce
open Go Go.Ev Go.Ev.L Go.Proofs
set_option maxRecDepth 100000
structure ke9 where
 da0:Int
 da1:Int
 da2:Int
 Ib5:Int
 ba6:List Pt
structure Rd8 where
 ef0:List Pt
 is8:Int
 ba6:List Pt
 s6:Int
 s7:Int
 s8:Int
 Wb6:Int
structure Rd9 where
 is4:Int
 is9:Int
structure le0 where
 alt:Nat
 bs0:Bool
 ba6:List Pt
structure Hc0 where
 ns0:Nat
 eh0:List (List b7)
 kb2:List Pt
structure rc7 where
 ns0:Nat
 is7:Int
 eh0:List (List b7)
structure rc8 where
 is8:Int
 kb2:List Pt
structure Hc1 where
 alt:Nat
 is0:Int
 kb2:List Pt
structure Hc2 where
 ns0:Nat
 eh0:List (List b7)
 kb2:List Pt
structure rc9 where
 ns0:Nat
structure sc0 where
 is5:Int
 is6:Int
 eh0:List (List b7)
 kb2:List Pt
structure Hc3 where
 alt:Nat
 ns0:Nat
 eh0:List (List b7)
 kb2:List Pt
structure Zc6 where
 ns0:Nat
 eh0:List (List b7)
structure Jc4 where
 ns0:Nat
 os4:Nat
 ns4:Nat
structure Jc5 where
 is3:Int
 is5:Int
 eh0:List (List b7)
structure Jc6 where
 ns0:Nat
 eh0:List (List b7)
structure Jc7 where
 is3:Int
structure Zc7 where
 alt:Nat
 ns0:Nat
 eh0:List (List b7)
noncomputable def yc5:List (Nat×Sum):=[]
theorem lc3:j7 prog G yc5:=trivial
noncomputable def va5 (x:Int) (y:Int):Option (b7×List b9):=(sl (decide (x < y)) (some ((i (-1)),[])) (sl (decide (x > y)) (some ((i 1),[])) (some ((i 0),[]))))
noncomputable def aa7 (x:Int) (y:Int):Int:=Y8 (one r1I) (va5 x y)
noncomputable def aa8 (x:Int) (y:Int):Bool:=okO (one r1I) (va5 x y)
noncomputable def eb3:Sum:=pa4 cI cI (fun x y=>.guard (aa8 x y) (.ret ((one r1I).enc (aa7 x y),[])))
theorem wb1:g8 prog G 141 eb3:=ub6 (bd Ze6 lc3) (one r1I) (o:=va5) fun x y=>A4 (by kernel_rfl)
noncomputable def Zb4:List (Nat×Sum):=[(141,eb3)]
theorem Rb2:j7 prog G Zb4:=⟨wb1,trivial⟩
noncomputable def la4 (x:Pln) (y:Pln):Option (b7×List b9):=let t1:=(aa7 x.n.x y.n.x);let t2:=(aa7 x.n.y y.n.y);let t3:=(aa7 x.n.z y.n.z);let t4:=(aa7 x.b y.b);(sl (aa8 x.n.x y.n.x) (sl (t1==0) (sl (aa8 x.n.y y.n.y) (sl (t2==0) (sl (aa8 x.n.z y.n.z) (sl (t3==0) (sl (aa8 x.b y.b) (sl (t4==0) (some ((i t4),[])) (some ((i t4),[]))) none) (some ((i t3),[]))) none) (some ((i t2),[]))) none) (some ((i t1),[]))) none)
noncomputable def xa3 (x:Pln) (y:Pln):Int:=Y8 (one r1I) (la4 x y)
noncomputable def xa4 (x:Pln) (y:Pln):Bool:=okO (one r1I) (la4 x y)
noncomputable def Na2:Sum:=pa4 (R7 tP) (R7 tP) (fun x y=>.guard (xa4 x y) (.ret ((one r1I).enc (xa3 x y),[])))
theorem Zb5:g8 prog G 122 Na2:=ub6 (bd Ye8 Rb2) (one r1I) (o:=la4) fun x y=>A4 (by kernel_rfl)
noncomputable def md7:List (Nat×Sum):=[(138,Ca1)]
theorem Zc8:j7 prog G md7:=⟨Na0,trivial⟩
noncomputable def Va4 (x:V3):Option (b7×List b9):=let t1:=(K2 24 [x.x,x.y,x.z]);(sl (K3 24 [x.x,x.y,x.z]) (some ((b t1),[])) none)
noncomputable def ka0 (x:V3):Bool:=Y8 (one r1B) (Va4 x)
noncomputable def ka1 (x:V3):Bool:=okO (one r1B) (Va4 x)
noncomputable def Va5:Sum:=Y7 (R7 tV) (fun x=>.guard (ka1 x) (.ret ((one r1B).enc (ka0 x),[])))
theorem cb2:g8 prog G 85 Va5:=Ua5 (bd b85 Zc8) (one r1B) (o:=Va4) fun x=>A4 (by kernel_rfl)
structure Sd0 where
 da0:Int
 da1:Int
 da2:Int
 Ib5:Int
 q7:List Pln
structure Sd1 where
 alt:Nat
 bs0:Bool
structure Hc4 where
 Vc3:List Pt
 q7:List Pln
structure sc1 where
 Vc3:List Pt
 is7:Int
structure sc2 where
 is8:Int
 q7:List Pln
structure Hc5 where
 alt:Nat
 is0:Int
 q7:List Pln
structure lc4 where
 Vc3:List Pt
 q7:List Pln
structure lc5 where
 alt:Nat
 bs0:Bool
 q7:List Pln
structure Ge7 where
 i9:Int
 Ve1:Int
 Ve2:Int
 Ve3:Int
 Ve4:Int
 Ve5:Int
end Go.Ev.Ce
end
namespace Go.Proofs
open Go.Shelf
set_option maxRecDepth 100000 in
def Ce.sortLay_ren:Go.Shelf.Ren:=⟨fun | 6=>121 | 15=>180 | 14=>179 | 28=>207 | 29=>208 | 20=>199 | 21=>200 | 22=>201 | 23=>202 | 24=>203 | 25=>204 | 26=>205 | 27=>206 | 46=>223 | 47=>224 | 48=>225 | 49=>226 | 50=>227 | 57=>233 | n=>n,fun | 22=>24 | 24=>73 | 25=>148 | 3=>3 | 39=>173 | 0=>0 | 53=>197 | 55=>199 | 4=>4 | 46=>191 | 45=>190 | 50=>50 | 5=>5 | 9=>9 | 66=>210 | 70=>214 | 76=>218 | 77=>219 | n=>n,fun | n=>n⟩
set_option maxRecDepth 100000 in
theorem Ce.sortLay:Go.Proofs.SlLaysF0.n6 Tryz.prog Ce.sortLay_ren:={
 mixed:=by kernel_rfl
 f6:=⟨Tryz.f121.name,by decide,Tryz.func121.trans (congrArg some (by kernel_rfl))⟩
 f14:=⟨Tryz.f179.name,by decide,Tryz.func179.trans (congrArg some (by kernel_rfl))⟩
 f15:=Tryz.func180.trans (congrArg some (by kernel_rfl))
 f20:=⟨Tryz.f199.name,by decide,Tryz.func199.trans (congrArg some (by kernel_rfl))⟩
 f21:=⟨Tryz.f200.name,by decide,Tryz.func200.trans (congrArg some (by kernel_rfl))⟩
 f22:=⟨Tryz.f201.name,by decide,Tryz.func201.trans (congrArg some (by kernel_rfl))⟩
 f23:=⟨Tryz.f202.name,by decide,Tryz.func202.trans (congrArg some (by kernel_rfl))⟩
 f24:=⟨Tryz.f203.name,by decide,Tryz.func203.trans (congrArg some (by kernel_rfl))⟩
 f25:=⟨Tryz.f204.name,by decide,Tryz.func204.trans (congrArg some (by kernel_rfl))⟩
 f26:=⟨Tryz.f205.name,by decide,Tryz.func205.trans (congrArg some (by kernel_rfl))⟩
 f27:=⟨Tryz.f206.name,by decide,Tryz.func206.trans (congrArg some (by kernel_rfl))⟩
 f28:=Tryz.func207.trans (congrArg some (by kernel_rfl))
 f29:=Tryz.func208.trans (congrArg some (by kernel_rfl))
 f46:=⟨Tryz.f223.name,by decide,Tryz.func223.trans (congrArg some (by kernel_rfl))⟩
 f47:=Tryz.func224.trans (congrArg some (by kernel_rfl))
 f48:=Tryz.func225.trans (congrArg some (by kernel_rfl))
 f49:=⟨Tryz.f226.name,by decide,Tryz.func226.trans (congrArg some (by kernel_rfl))⟩
 f50:=⟨Tryz.f227.name,by decide,Tryz.func227.trans (congrArg some (by kernel_rfl))⟩
 f57:=⟨Tryz.f233.name,by decide,Tryz.func233.trans (congrArg some (by kernel_rfl))⟩
 t0:=Tryz.underlying0
 a0:=Tryz.isAgg0
 z0:=Tryz.sizeOf0
 v0:=Tryz.zeroValue0
 t3:=Tryz.underlying3
 a3:=Tryz.isAgg3
 z3:=Tryz.sizeOf3
 v3:=Tryz.zeroValue3
 t4:=Tryz.underlying4
 a4:=Tryz.isAgg4
 z4:=Tryz.sizeOf4
 v4:=Tryz.zeroValue4
 t5:=Tryz.underlying5
 a5:=Tryz.isAgg5
 z5:=Tryz.sizeOf5
 v5:=Tryz.zeroValue5
 t9:=Tryz.underlying9
 a9:=Tryz.isAgg9
 z9:=Tryz.sizeOf9
 v9:=Tryz.zeroValue9
 t22:=Tryz.underlying24
 a22:=Tryz.isAgg24
 z22:=Tryz.sizeOf24
 v22:=Tryz.zeroValue24
 t25:=Tryz.underlying148
 a25:=Tryz.isAgg148
 z25:=Tryz.sizeOf148
 v25:=Tryz.zeroValue148
 t39:=Tryz.underlying173
 a39:=Tryz.isAgg173
 z39:=Tryz.sizeOf173
 v39:=Tryz.zeroValue173
 t45:=Tryz.underlying190
 a45:=Tryz.isAgg190
 z45:=Tryz.sizeOf190
 v45:=Tryz.zeroValue190
 t46:=Tryz.underlying191
 a46:=Tryz.isAgg191
 z46:=Tryz.sizeOf191
 v46:=Tryz.zeroValue191
 t50:=Tryz.underlying50
 a50:=Tryz.isAgg50
 z50:=Tryz.sizeOf50
 v50:=Tryz.zeroValue50
 t53:=Tryz.underlying197
 a53:=Tryz.isAgg197
 z53:=Tryz.sizeOf197
 v53:=Tryz.zeroValue197
 t55:=Tryz.underlying199
 a55:=Tryz.isAgg199
 z55:=Tryz.sizeOf199
 v55:=Tryz.zeroValue199
 t66:=Tryz.underlying210
 a66:=Tryz.isAgg210
 z66:=Tryz.sizeOf210
 v66:=Tryz.zeroValue210
 t70:=Tryz.underlying214
 a70:=Tryz.isAgg214
 z70:=Tryz.sizeOf214
 v70:=Tryz.zeroValue214
 t76:=Tryz.underlying218
 a76:=Tryz.isAgg218
 z76:=Tryz.sizeOf218
 v76:=Tryz.zeroValue218
 t77:=Tryz.underlying219
 a77:=Tryz.isAgg219
 z77:=Tryz.sizeOf219
 v77:=Tryz.zeroValue219 }
end Go.Proofs
namespace Go.Ev.Ce
open Go Go.Ev Go.Ev.L Go.Proofs Go.Sort
def eb4 (x y:Int):Int:=if x < y then -1 else if x > y then 1 else 0
def eb5 (x y:Pln):Int :=
 if eb4 x.n.x y.n.x=0 then if eb4 x.n.y y.n.y=0 then if eb4 x.n.z y.n.z=0 then eb4 x.b y.b else eb4 x.n.z y.n.z else eb4 x.n.y y.n.y else eb4 x.n.x y.n.x
theorem nb0 (x y:Int):eb4 x y < 0↔x < y:=by unfold eb4;split<;>(try split)<;>omega
theorem Rb3 (x y:Int):eb4 x y=0↔x=y:=by unfold eb4;split<;>(try split)<;>omega
def LtP (x y:Pln):Prop:=x.n.x < y.n.x∨x.n.x=y.n.x∧(x.n.y < y.n.y∨x.n.y=y.n.y∧(x.n.z < y.n.z∨x.n.z=y.n.z∧x.b < y.b))
instance (x y:Pln):Decidable (LtP x y):=by unfold LtP;exact inferInstance
theorem Zc9 (x y:Pln):eb5 x y < 0↔LtP x y:=by
 have h1:=nb0 x.n.x y.n.x;have h2:=Rb3 x.n.x y.n.x
 have h3:=nb0 x.n.y y.n.y;have h4:=Rb3 x.n.y y.n.y
 have h5:=nb0 x.n.z y.n.z;have h6:=Rb3 x.n.z y.n.z
 have h7:=nb0 x.b y.b
 unfold eb5 LtP
 split
 ·split
  ·split<;>omega
  ·omega
 ·omega
theorem Ha0 (x y:Pln):ltOf eb5 x y=decide (LtP x y):=by
 unfold ltOf
 rw[decide_eq_decide]
 exact Zc9 x y
theorem Re7:SWO (ltOf eb5) where
 irrefl x:=by rw[Ha0];simp[LtP]
 trans x y z h1 h2:=by rw[Ha0,decide_eq_true_eq] at *;unfold LtP at *;omega
 ntrans x y z h1 h2:=by rw[Ha0,decide_eq_false_iff_not] at *;unfold LtP at *;omega
theorem cf0 (x y:Pln) (h1:ltOf eb5 x y=false) (h2:ltOf eb5 y x=false):x=y:=by
 rw[Ha0,decide_eq_false_iff_not] at *
 unfold LtP at *
 obtain⟨⟨a,b,c⟩,d⟩:=x;obtain⟨⟨a',b',c'⟩,d'⟩:=y
 simp only at *
 have:a=a'∧b=b'∧c=c'∧d=d':=by omega
 obtain⟨rfl,rfl,rfl,rfl⟩:=this
 rfl
theorem md8 (x y:Int):va5 x y=some (i (eb4 x y),[]):=by
 unfold va5 eb4
 simp only[Kb1,decide_eq_true_eq]
 split<;>(try split)<;>rfl
theorem Fd1 (x y:Int):aa7 x y=eb4 x y:=by unfold aa7;rw[md8];rfl
theorem Fd2 (x y:Int):aa8 x y=true:=by unfold aa8;rw[md8];rfl
theorem yc6 (x y:Pln):la4 x y=some (i (eb5 x y),[]):=by
 unfold la4 eb5
 simp only[Fd1,Fd2,Kb1,beq_iff_eq,if_true]
 repeat' (first | rfl | split)
theorem Re8 (x y:Pln):xa3 x y=eb5 x y:=by unfold xa3;rw[yc6];rfl
theorem Re9 (x y:Pln):xa4 x y=true:=by unfold xa4;rw[yc6];rfl
theorem Se0 (x y:Pln):(Na2 [.agg (tP.row x),.agg (tP.row y)] []).run=some (i (eb5 x y),[]):=by
 have:(Na2 [.agg (tP.row x),.agg (tP.row y)] []).run=sel (xa4 x y) (some (i (xa3 x y),[])) none:=by kernel_rfl
 rw[this,Re9,Re8]
def Yb9 (p:Pln):List Value:=[.int .i64 p.n.x,.int .i64 p.n.y,.int .i64 p.n.z,.int .i64 p.b]
instance:Inhabited Pln:=⟨⟨⟨0,0,0⟩,0⟩⟩
def Fb9 (l:List Pln):List Pln:=l.mergeSort fun x y=>!ltOf eb5 y x
theorem Cb4 (l:List Pln):(Fb9 l).length=l.length:=List.length_mergeSort l
noncomputable def Aa3:Sum:=Ed4 tP 122 73 Fb9
theorem Zd5:Ce.sortLay_ren.f 6=121:=by kernel_rfl
theorem Sc1:Ce.sortLay_ren.t 24=73:=by kernel_rfl
set_option maxRecDepth 100000 in
theorem eb6:g8 prog G 121 Aa3:=by
 refine Ed5 (enc:=Yb9) (cf:=eb5) ⟨_,Tryz.func121,by kernel_rfl,of_decide_eq_true (by kernel_rfl)⟩ (by decide) (fun _=>rfl) (fun r h=>Ta1 (n:=4) h) (fun x v hv=>?_) Cb4
  (fun blk off size w=>Ed3 Zb5 Se0 (fun _=>rfl) (fun _=>rfl) _ _ _ _ _) (fun blk cap d w hcl hH hb hs=>?_)
 ·simp[Yb9] at hv
  rcases hv with rfl | rfl | rfl | rfl<;>rfl
 ·have eg:∀ args w,(callFunc 122 args).run Tryz.prog w=.ok (.enter 122 args) w:=enters_of Tryz.func122 (by kernel_rfl) rfl
  have:=AnyQ.slices_SortFunc Ce.sortLay 4 (by rw[Sc1];exact Tryz.isAgg73) (by rw[Sc1];exact Tryz.sizeOf73) Yb9 (fun _=>rfl) (fun x v hv=>by simp[Yb9] at hv;rcases hv with rfl | rfl | rfl | rfl<;>rfl) eb5 Re7 122 #[] blk 0 cap d w eg (hcl 0 d.size) hH hb hs
  rw[Zd5] at this
  refine this.mono fun e w' ⟨h1,d',n,os,h2,h3,h4⟩=>⟨h1,n,os,?_⟩
  have h5:=sorted_unique_holds Re7 cf0 d d' h2 h3
  rw[h4]
  show _=sortWorldK Yb9 4 w blk 0 n (d.toList.mergeSort fun x y=>!ltOf eb5 y x).toArray os
  rw[← h5]
end Go.Ev.Ce
section
namespace Go.Ev.Ce
open Go Go.Ev Go.Ev.L Go.Proofs
set_option maxRecDepth 100000
structure xa5 where
 is1:Int
 m9:List Int
 c7:Int
noncomputable def Zb6:List (Nat×Sum):=[(27,Rc2)]
theorem Rb4:j7 prog G Zb6:=⟨yd7,trivial⟩
structure xa6 where
 alt:Nat
 is0:Int
 c7:Int
noncomputable def ea3 {α:Type} (kk:xa6→α) (x:xa5):α:=let t1:=(Cb2 (gL tI x.m9 (W ((W (x.c7+1)) - 1)).toNat) x.is1);(sl (decide (x.c7≥(↑(List.length x.m9):Int))) (kk ⟨1,0,x.c7⟩) (sl (inB (W ((W (x.c7+1)) - 1)) (List.length x.m9)) (sl (Cb3 (gL tI x.m9 (W ((W (x.c7+1)) - 1)).toNat) x.is1) (kk ⟨1,t1,(W (x.c7+1))⟩) (kk ⟨0,0,0⟩)) (kk ⟨0,0,0⟩)))
noncomputable def A2 (x:xa5):xa6:=ea3 (fun r=>r) x
noncomputable def Ha1 (x:xa5) (r:xa6):DT (b7×List b9):=(.ite (Nat.beq r.alt 1) (.ret ((i r.is0),[⟨0,2,[[(eL tI x.m9),(i r.c7)]],true,false,0⟩])) .fail)
theorem lc6 {α β:Type} (F:α→β) (kk:xa6→α) (x:xa5):F (ea3 kk x)=ea3 (fun r=>F (kk r)) x:=by unfold ea3;(repeat' apply n7 (f:=F))<;>rfl
noncomputable def pb2:Sum:=Ua6 ⟨[(.s (.o (.ptr 0 0 0 0))),(.s (.o (.int .i64)))],[⟨0,2,true,(some [[(.c 1 (nL tI)),(.o (.int .i64))]])⟩],fun a H=>(⟨(toI (slT a 1)),(rL tI (slT (rwT (elT H 0) 0) 0)),(toI (slT (rwT (elT H 0) 0) 1))⟩,())⟩ (fun x=>Ha1 x (A2 x))
theorem Zb7:g8 prog G 68 pb2:=P8 (enc:=fun x=>⟨[(.ptr 0 0 0 0),(i x.is1)],[⟨0,2,[[(eL tI x.m9),(i x.c7)]],true,false,0⟩]⟩) (fun a H=>by kernel_rfl) (bd b68 Rb4) fun x=>A4 (Eq.trans (b:=ea3 (fun r=>(Ha1 x r).run) x) (by kernel_rfl) (lc6 (fun r=>(Ha1 x r).run) (fun r=>r) x).symm)
structure Le8 where
 is1:Int
 m9:List Int
 c7:Int
structure Le9 where
 alt:Nat
 da0:Int
 da1:Int
 da2:Int
 m9:List Int
 c7:Int
noncomputable def yd8:List (Nat×Sum):=[]
theorem md9:j7 prog G yd8:=trivial
noncomputable def Ha2 (x:V3) (y:V3):V3:=(⟨(W (x.x - y.x)),(W (x.y - y.y)),(W (x.z - y.z))⟩:V3)
noncomputable def Sc2:Sum:=pa4 (R7 tV) (R7 tV) (fun x y=>.ret ((one r1V).enc (Ha2 x y),[]))
theorem yd9:g8 prog G 128 Sc2:=sa5 (bd Ye9 md9) fun x y=>A4 (by kernel_rfl)
noncomputable def Md9:List (Nat×Sum):=[(191,sa6)]
theorem zd0:j7 prog G Md9:=⟨Ca0,trivial⟩
noncomputable def wb2 (x:V3):Option (b7×List b9):=(sl (decide (x.x < (-24))) (some ((b false),[])) (sl (decide (x.x > 24)) (some ((b false),[])) (sl (decide (x.y < (-24))) (some ((b false),[])) (sl (decide (x.y > 24)) (some ((b false),[])) (sl (decide (x.z < (-24))) (some ((b false),[])) (sl (decide (x.z > 24)) (some ((b false),[])) (some ((b true),[]))))))))
noncomputable def Va6 (x:V3):Bool:=Y8 (one r1B) (wb2 x)
noncomputable def Va7 (x:V3):Bool:=okO (one r1B) (wb2 x)
noncomputable def yc7:Sum:=Y7 (R7 tV) (fun x=>.guard (Va7 x) (.ret ((one r1B).enc (Va6 x),[])))
theorem Sc3:g8 prog G 162 yc7:=Ua5 (bd af3 zd0) (one r1B) (o:=wb2) fun x=>A4 (by kernel_rfl)
noncomputable def yc8:List (Nat×Sum):=[(162,yc7),(128,Sc2),(164,hc9),(163,Kb7),(84,Zb1)]
theorem lc7:j7 prog G yc8:=⟨Sc3,yd9,Yc8,ic1,yc0,trivial⟩
noncomputable def va6 (x:V3) (y:V3) (z:V3):Option (b7×List b9):=let t1:=(Va6 x);let t2:=(Va6 y);let t3:=(Va6 z);let t4:=(Ha2 y x);let t5:=(Ha2 z x);let t6:=(La3 t4 t5);let t7:=(za5 t6);let t8:=(Ga6 t7.1 x);(sl (Va7 x) (sl (!t1) (some ((.tup [(.agg [(i 0),(i 0),(i 0),(i 0)]),(b false)]),[])) (sl (Va7 y) (sl (!t2) (some ((.tup [(.agg [(i 0),(i 0),(i 0),(i 0)]),(b false)]),[])) (sl (Va7 z) (sl (!t3) (some ((.tup [(.agg [(i 0),(i 0),(i 0),(i 0)]),(b false)]),[])) (sl (Va3 t6) (sl (t7.2==0) (some ((.tup [(.agg [(i 0),(i 0),(i 0),(i 0)]),(b false)]),[])) (some ((.tup [(.agg [(i t7.1.x),(i t7.1.y),(i t7.1.z),(i t8)]),(b true)]),[]))) none)) none)) none)) none)
noncomputable def Ja2 (x:V3) (y:V3) (z:V3):Pln×Bool:=Y8 (two r1P r1B) (va6 x y z)
noncomputable def Ja3 (x:V3) (y:V3) (z:V3):Bool:=okO (two r1P r1B) (va6 x y z)
noncomputable def Gb0:Sum:=Xc8 (R7 tV) (R7 tV) (R7 tV) (fun x y z=>.guard (Ja3 x y z) (.ret ((two r1P r1B).enc (Ja2 x y z),[])))
theorem yc9:g8 prog G 107 Gb0:=Ne2 (bd Ye3 lc7) (two r1P r1B) (o:=va6) fun x y z=>A4 (by kernel_rfl)
noncomputable def nd0:List (Nat×Sum):=[(156,ic2),(162,yc7),(84,Zb1)]
theorem ad1:j7 prog G nd0:=⟨Zc1,Sc3,yc0,trivial⟩
noncomputable def za6 (x:Pln) (y:V3):Option (b7×List b9):=let t1:=(bb9 x);let t2:=(Va6 y);let t3:=(Ga6 x.n y);(sl (cb0 x) (sl (!t1) (some ((i 0),[])) (sl (Va7 y) (sl (!t2) (some ((i 0),[])) (sl (decide ((W (t3 - x.b)) < 0)) (some ((i (-1)),[])) (sl (decide ((W (t3 - x.b)) > 0)) (some ((i 1),[])) (some ((i 0),[]))))) none)) none)
noncomputable def nb1 (x:Pln) (y:V3):Int:=Y8 (one r1I) (za6 x y)
noncomputable def Lb3 (x:Pln) (y:V3):Bool:=okO (one r1I) (za6 x y)
noncomputable def zc0:Sum:=pa4 (R7 tP) (R7 tV) (fun x y=>.guard (Lb3 x y) (.ret ((one r1I).enc (nb1 x y),[])))
theorem nd1:g8 prog G 135 zc0:=ub6 (bd Ze3 ad1) (one r1I) (o:=za6) fun x y=>A4 (by kernel_rfl)
structure Sd2 where
 c9:Int
 c7:Int
 d7:Int
 i9:Int
 s6:Int
 s7:Int
 s8:Int
 Wb6:Int
structure Sd3 where
 is7:Int
end Go.Ev.Ce
end
section
namespace Go.Ev.Ce
open Go Go.Ev Go.Ev.L Go.Proofs
set_option maxRecDepth 100000
noncomputable def La6:List (Nat×Sum):=[(107,Gb0),(135,zc0)]
theorem ad2:j7 prog G La6:=⟨yc9,nd1,trivial⟩
structure ka2 where
 f7:List V3
 is3:Int
 is4:Int
 is5:Int
 bs7:Bool
 c9:Int
 c7:Int
 d7:Int
 i9:Int
structure Z4 where
 is8:Int
noncomputable def Jc8 (p:ka2) (s:Z4):St:=⟨((eL tV p.f7)::(.unk::(.unk::((i p.is3)::((i p.is4)::((i p.is5)::((.ptr 0 0 0 0)::((b p.bs7)::((i s.is8)::(ra 48 [])))))))))),[⟨0,4,[[(i p.c9),(i p.c7),(i p.d7),(i p.i9)]],true,false,0⟩]⟩
noncomputable def U2 {α:Type} (k:Z4→α) (e:Nat→α) (z:α) (p:ka2) (s:Z4):α:=let t1:=(nb1 (⟨(⟨p.c9,p.c7,p.d7⟩:V3),p.i9⟩:Pln) (gL tV p.f7 s.is8.toNat));(sl (decide (s.is8 < (↑(List.length p.f7):Int))) (sl p.bs7 (sl (inB s.is8 (List.length p.f7)) (sl (Lb3 (⟨(⟨p.c9,p.c7,p.d7⟩:V3),p.i9⟩:Pln) (gL tV p.f7 s.is8.toNat)) (sl (t1 != 0) (e 1) (k ⟨(W (s.is8+1))⟩)) z) z) (e 2)) (e 3))
noncomputable def y8 (p:ka2) (s:Z4):Stp Z4:=U2 .next .exit .fail p s
noncomputable def nb2:Lo ka2 Z4:=⟨En La6,0,Yd7,[1,0,1,4,4,1,0,4,1,4,4,1,0,4,1,4,4,1,0,4,1,1,4,4],[0,3,4,5,6,7,8],.p,[⟨((.s (.c 3 (nL tV)))::((.s (.o .unk))::((.s (.o .unk))::((.s (.o (.int .i64)))::((.s (.o (.int .i64)))::((.s (.o (.int .i64)))::((.s (.o (.ptr 0 0 0 0)))::((.s (.o .bool))::((.s (.o (.int .i64)))::(ru2 48 [])))))))))),[⟨0,4,true,(some [[(.o (.int .i64)),(.o (.int .i64)),(.o (.int .i64)),(.o (.int .i64))]])⟩],fun a H=>(⟨(rL tV (slT a 0)),(toI (slT a 3)),(toI (slT a 4)),(toI (slT a 5)),(toB (slT a 7)),(toI (slT (rwT (elT H 0) 0) 0)),(toI (slT (rwT (elT H 0) 0) 1)),(toI (slT (rwT (elT H 0) 0) 2)),(toI (slT (rwT (elT H 0) 0) 3))⟩,⟨(toI (slT a 8))⟩)⟩],y8,[(none,fun p s=>⟨[(b false)],[]⟩),(some 6,fun p s=>⟨((eL tV p.f7)::(.unk::(.unk::((i p.is3)::((i p.is4)::((i p.is5)::((.ptr 0 0 0 0)::((b p.bs7)::((i s.is8)::(ra 32 ((i s.is8)::((eL tV p.f7)::((i (↑(List.length p.f7):Int))::((b (decide (s.is8 < (↑(List.length p.f7):Int))))::((b true)::((b p.bs7)::((b p.bs7)::(ra 9 [])))))))))))))))))),[⟨0,4,[[(i p.c9),(i p.c7),(i p.d7),(i p.i9)]],true,false,0⟩]⟩),(some 6,fun p s=>⟨((eL tV p.f7)::(.unk::(.unk::((i p.is3)::((i p.is4)::((i p.is5)::((.ptr 0 0 0 0)::((b p.bs7)::((i s.is8)::(ra 32 ((i s.is8)::((eL tV p.f7)::((i (↑(List.length p.f7):Int))::((b (decide (s.is8 < (↑(List.length p.f7):Int))))::((b false)::(u::((b false)::(ra 9 [])))))))))))))))))),[⟨0,4,[[(i p.c9),(i p.c7),(i p.d7),(i p.i9)]],true,false,0⟩]⟩)],Jc8⟩
theorem Jc9:nb2.Ok:=Lo.ok [] (by kernel_rfl) .nil rfl (.cons (fun a H=>by kernel_rfl) .nil) fun p s=>(.of @U2 (fun F _ _ _ _ _=>by unfold U2;(repeat' apply n7 (f:=F))<;>rfl) (by kernel_rfl))
structure Ca4 where
 is3:Int
 is4:Int
structure Z5 where
 f7:List V3
 is5:Int
noncomputable def Kc0 (p:Ca4) (s:Z5):St:=⟨((eL tV s.f7)::(.unk::(.unk::((i p.is3)::((i p.is4)::((i s.is5)::(ra 51 []))))))),[]⟩
noncomputable def ca2 {α:Type} (k:Z5→α) (e:Nat→α) (z:α) (p:Ca4) (s:Z5):α:=let t1:=(Ja2 (gL tV s.f7 p.is3.toNat) (gL tV s.f7 p.is4.toNat) (gL tV s.f7 s.is5.toNat));let t2:=(lp (y8 (⟨(rt tV s.f7),p.is3,p.is4,s.is5,t1.2,t1.1.n.x,t1.1.n.y,t1.1.n.z,t1.1.b⟩:ka2)) (⟨0⟩:Z4));(sl (decide (s.is5 < p.is4)) (sl (inB p.is3 (List.length s.f7)) (sl (inB p.is4 (List.length s.f7)) (sl (inB s.is5 (List.length s.f7)) (sl (Ja3 (gL tV s.f7 p.is3.toNat) (gL tV s.f7 p.is4.toNat) (gL tV s.f7 s.is5.toNat)) (sl ((cnE tV s.f7)&&true) (sl (Nat.beq t2.1 1) (e 1) (sl (Nat.beq t2.1 2) (k ⟨(rt tV s.f7),(W (s.is5+1))⟩) (sl (Nat.beq t2.1 3) (k ⟨(rt tV s.f7),(W (s.is5+1))⟩) z))) z) z) z) z) z) (e 2))
noncomputable def M5 (p:Ca4) (s:Z5):Stp Z5:=ca2 .next .exit .fail p s
noncomputable def nb3:Lo Ca4 Z5:=⟨En La6,0,Yd7,[1,0,1,4,4,1,0,4,1,4,4,1,0,4,1,4,4],[0,3,4,5],(.s .p (.s (.b (.s .p (.s .p (.b (.u nb2.ls))))) .p)),[⟨((.s (.c 3 (nL tV)))::((.s (.o .unk))::((.s (.o .unk))::((.s (.o (.int .i64)))::((.s (.o (.int .i64)))::((.s (.o (.int .i64)))::(ru2 51 []))))))),[],fun a H=>(⟨(toI (slT a 3)),(toI (slT a 4))⟩,⟨(rL tV (slT a 0)),(toI (slT a 5))⟩)⟩],M5,[(none,fun p s=>⟨[(b false)],[]⟩),(some 4,fun p s=>⟨((eL tV s.f7)::(.unk::(.unk::((i p.is3)::((i p.is4)::((i s.is5)::(ra 14 ((i s.is5)::((i p.is4)::((b (decide (s.is5 < p.is4)))::(ra 34 []))))))))))),[]⟩)],Kc0⟩
theorem Kc1:nb3.Ok:=Lo.ok [nb2.pr] (by kernel_rfl) (.cons Jc9 .nil) rfl (.cons (fun a H=>by kernel_rfl) .nil) fun p s=>(.of @ca2 (fun F _ _ _ _ _=>by unfold ca2;(repeat' apply n7 (f:=F))<;>rfl) (by kernel_rfl))
structure Ca5 where
 is3:Int
structure Z6 where
 f7:List V3
 is4:Int
noncomputable def Kc2 (p:Ca5) (s:Z6):St:=⟨((eL tV s.f7)::(.unk::(.unk::((i p.is3)::((i s.is4)::(ra 52 [])))))),[]⟩
noncomputable def ca3 {α:Type} (k:Z6→α) (e:Nat→α) (z:α) (p:Ca5) (s:Z6):α:=let t1:=(lp (M5 (⟨p.is3,s.is4⟩:Ca4)) (⟨(rt tV s.f7),0⟩:Z5));(sl (decide (s.is4 < p.is3)) (sl ((cnE tV s.f7)&&true) (sl (Nat.beq t1.1 1) (e 1) (sl (Nat.beq t1.1 2) (k ⟨t1.2.f7,(W (s.is4+1))⟩) z)) z) (e 2))
noncomputable def M6 (p:Ca5) (s:Z6):Stp Z6:=ca3 .next .exit .fail p s
noncomputable def nb4:Lo Ca5 Z6:=⟨En La6,0,Yd7,[1,0,1,4,4,1,0,4,1,4,4],[0,3,4],(.s .p (.s (.b (.s .p (.b (.u nb3.ls)))) .p)),[⟨((.s (.c 3 (nL tV)))::((.s (.o .unk))::((.s (.o .unk))::((.s (.o (.int .i64)))::((.s (.o (.int .i64)))::(ru2 52 [])))))),[],fun a H=>(⟨(toI (slT a 3))⟩,⟨(rL tV (slT a 0)),(toI (slT a 4))⟩)⟩],M6,[(none,fun p s=>⟨[(b false)],[]⟩),(some 2,fun p s=>⟨((eL tV s.f7)::(.unk::(.unk::((i p.is3)::((i s.is4)::(ra 10 ((i s.is4)::((i p.is3)::((b (decide (s.is4 < p.is3)))::(ra 39 [])))))))))),[]⟩)],Kc2⟩
theorem Kc3:nb4.Ok:=Lo.ok [nb3.pr] (by kernel_rfl) (.cons Kc1 .nil) rfl (.cons (fun a H=>by kernel_rfl) .nil) fun p s=>(.of @ca3 (fun F _ _ _ _ _=>by unfold ca3;(repeat' apply n7 (f:=F))<;>rfl) (by kernel_rfl))
structure Ca6 where
structure Z7 where
 f7:List V3
 is3:Int
noncomputable def Kc4 (p:Ca6) (s:Z7):St:=⟨((eL tV s.f7)::(.unk::(.unk::((i s.is3)::(ra 53 []))))),[]⟩
noncomputable def ca4 {α:Type} (k:Z7→α) (e:Nat→α) (z:α) (p:Ca6) (s:Z7):α:=let t1:=(lp (M6 (⟨s.is3⟩:Ca5)) (⟨(rt tV s.f7),0⟩:Z6));(sl (decide (s.is3 < (↑(List.length s.f7):Int))) (sl ((cnE tV s.f7)&&true) (sl (Nat.beq t1.1 1) (e 1) (sl (Nat.beq t1.1 2) (k ⟨t1.2.f7,(W (s.is3+1))⟩) z)) z) (e 2))
noncomputable def M7 (p:Ca6) (s:Z7):Stp Z7:=ca4 .next .exit .fail p s
noncomputable def nb5:Lo Ca6 Z7:=⟨En La6,0,Yd7,[1,0,1,4,4],[0,3],(.s .p (.s (.b (.s .p (.b (.u nb4.ls)))) .p)),[⟨((.s (.c 3 (nL tV)))::((.s (.o .unk))::((.s (.o .unk))::((.s (.o (.int .i64)))::(ru2 53 []))))),[],fun a H=>(⟨⟩,⟨(rL tV (slT a 0)),(toI (slT a 3))⟩)⟩],M7,[(none,fun p s=>⟨[(b false)],[]⟩),(some 0,fun p s=>⟨((eL tV s.f7)::(.unk::(.unk::((i s.is3)::(ra 5 ((i s.is3)::((eL tV s.f7)::((i (↑(List.length s.f7):Int))::((b (decide (s.is3 < (↑(List.length s.f7):Int))))::(ra 44 [])))))))))),[]⟩)],Kc4⟩
theorem Kc5:nb5.Ok:=Lo.ok [nb4.pr] (by kernel_rfl) (.cons Kc3 .nil) rfl (.cons (fun a H=>by kernel_rfl) .nil) fun p s=>(.of @ca4 (fun F _ _ _ _ _=>by unfold ca4;(repeat' apply n7 (f:=F))<;>rfl) (by kernel_rfl))
noncomputable def za7 (x:List V3):Option (b7×List b9):=let t1:=(lp (M7 (⟨⟩:Ca6)) (⟨(rt tV x),0⟩:Z7));(sl ((cnE tV x)&&true) (sl (Nat.beq t1.1 1) (some ((b false),[])) (sl (Nat.beq t1.1 2) (some ((b true),[])) none)) none)
noncomputable def Va8 (x:List V3):Bool:=Y8 (one r1B) (za7 x)
noncomputable def Ha3 (x:List V3):Bool:=okO (one r1B) (za7 x)
noncomputable def zc1:Sum:=Y7 (Ba0 tV) (fun x=>.guard (Ha3 x) (.ret ((one r1B).enc (Va8 x),[])))
theorem nd2:g8 prog G 78 zc1:=Ua5 (bd b78 ad2) (one r1B) (o:=za7) fun x=>Qa3 (.s .p (.s (.s .p (.b (.u nb5.ls))) .p)) [nb5.pr] (by kernel_rfl) (.cons Kc5 .nil) (by kernel_rfl)
structure le1 where
 f7:List V3
structure le2 where
 is3:Int
structure le3 where
 R4:List V3
 c9:Int
 c7:Int
 d7:Int
 i9:Int
structure le4 where
 is5:Int
structure Ae6 where
 n5:List Pln
 c9:Int
 c7:Int
 d7:Int
 i9:Int
structure Ae7 where
 is5:Int
structure le5 where
 f7:List V3
 is6:Int
 is7:Int
structure le6 where
 ph:Nat
 is8:Int
 Ce8:List Pln
structure le7 where
 is6:Int
structure le8 where
 ph:Nat
 f7:List V3
 is7:Int
 Ce8:List Pln
structure le9 where
structure me0 where
 ph:Nat
 f7:List V3
 is6:Int
 Ce8:List Pln
noncomputable def Gb1:List (Nat×Sum):=[(68,pb2),(78,zc1)]
theorem zc2:j7 prog G Gb1:=⟨Zb7,nd2,trivial⟩
structure U3 where
 is4:Int
structure p6 where
 ph:Nat
 is6:Int
 m9:List Int
 c7:Int
 ns5:Nat
 eh1:List (List b7)
noncomputable def Zb8 (p:U3) (s:p6):St:=⟨(ra 3 ((.ptr 0 0 0 0)::((i p.is4)::((.v (.slice none 0 0))::((i s.is6)::(ra 127 [])))))),[⟨0,2,[[(eL tI s.m9),(i s.c7)]],true,false,0⟩]⟩
noncomputable def Zb9 (p:U3) (s:p6):St:=⟨(ra 3 ((.ptr 0 0 0 0)::((i p.is4)::((.sl 1 0 s.ns5 0)::((i s.is6)::(ra 127 [])))))),[⟨0,2,[[(eL tI s.m9),(i s.c7)]],true,false,0⟩,⟨27,3,s.eh1,true,false,0⟩]⟩
noncomputable def lc8 (p:U3) (s:p6):St:=(sel (Nat.beq s.ph 1) (Zb9 p s) (Zb8 p s))
noncomputable def S1 {α:Type} (k:p6→α) (e:Nat→α) (z:α) (p:U3) (s:p6):α:=let t1:=(A2 ⟨17,(rt tI s.m9),s.c7⟩);let t2:=(A2 ⟨17,(rt tI (rt tI s.m9)),t1.c7⟩);let t3:=(A2 ⟨17,(rt tI (rt tI (rt tI s.m9))),t2.c7⟩);let t4:=(A2 ⟨6,(rt tI (rt tI (rt tI (rt tI s.m9)))),t3.c7⟩);(sl (decide (s.is6 < p.is4)) (sl ((cnE tI s.m9)&&true) (sl (Nat.beq t1.alt 1) (sl ((cnE tI (rt tI s.m9))&&true) (sl (Nat.beq t2.alt 1) (sl ((cnE tI (rt tI (rt tI s.m9)))&&true) (sl (Nat.beq t3.alt 1) (sl ((cnE tI (rt tI (rt tI (rt tI s.m9))))&&true) (sl (Nat.beq t4.alt 1) (sl (t4.is0==1) (sl (decide (s.is6 > 1)) z (sl (t4.is0==2) (sl (decide (s.is6 > 0)) z (sl (t4.is0==3) (sl (decide (s.is6 > 2)) z (k ⟨1,(W (s.is6+1)),(rt tI (rt tI (rt tI (rt tI s.m9)))),t4.c7,1,[[(i (W (t1.is0 - 8))),(i (W (t2.is0 - 8))),(i (W (t3.is0 - 8)))]]⟩)) (k ⟨1,(W (s.is6+1)),(rt tI (rt tI (rt tI (rt tI s.m9)))),t4.c7,1,[[(i (W (t1.is0 - 8))),(i (W (t2.is0 - 8))),(i (W (t3.is0 - 8)))]]⟩))) (sl (t4.is0==3) (sl (decide (s.is6 > 2)) z (k ⟨1,(W (s.is6+1)),(rt tI (rt tI (rt tI (rt tI s.m9)))),t4.c7,1,[[(i (W (t1.is0 - 8))),(i (W (t2.is0 - 8))),(i (W (t3.is0 - 8)))]]⟩)) (k ⟨1,(W (s.is6+1)),(rt tI (rt tI (rt tI (rt tI s.m9)))),t4.c7,1,[[(i (W (t1.is0 - 8))),(i (W (t2.is0 - 8))),(i (W (t3.is0 - 8)))]]⟩)))) (sl (t4.is0==2) (sl (decide (s.is6 > 0)) z (sl (t4.is0==3) (sl (decide (s.is6 > 2)) z (k ⟨1,(W (s.is6+1)),(rt tI (rt tI (rt tI (rt tI s.m9)))),t4.c7,1,[[(i (W (t1.is0 - 8))),(i (W (t2.is0 - 8))),(i (W (t3.is0 - 8)))]]⟩)) (k ⟨1,(W (s.is6+1)),(rt tI (rt tI (rt tI (rt tI s.m9)))),t4.c7,1,[[(i (W (t1.is0 - 8))),(i (W (t2.is0 - 8))),(i (W (t3.is0 - 8)))]]⟩))) (sl (t4.is0==3) (sl (decide (s.is6 > 2)) z (k ⟨1,(W (s.is6+1)),(rt tI (rt tI (rt tI (rt tI s.m9)))),t4.c7,1,[[(i (W (t1.is0 - 8))),(i (W (t2.is0 - 8))),(i (W (t3.is0 - 8)))]]⟩)) (k ⟨1,(W (s.is6+1)),(rt tI (rt tI (rt tI (rt tI s.m9)))),t4.c7,1,[[(i (W (t1.is0 - 8))),(i (W (t2.is0 - 8))),(i (W (t3.is0 - 8)))]]⟩)))) z) z) z) z) z) z) z) z) (e 1))
noncomputable def o9 {α:Type} (k:p6→α) (e:Nat→α) (z:α) (p:U3) (s:p6):α:=let t1:=(A2 ⟨17,(rt tI s.m9),s.c7⟩);let a0:=(i6 s.eh1 (0+(W (s.is6 - 1)).toNat));let a1:=(Nat.beq s.ns5 (len s.eh1)&&Nat.ble ((s.ns5+1)*24) room);let a3:=(f9 (i6 s.eh1 (0+(W (s.is6 - 2)).toNat)) 0);let a4:=((Nat.blt (0+(W (s.is6 - 1)).toNat) (len s.eh1))&&(Nat.ble (2+1) (len a0)));let a5:=(i (W (Int.tdiv (W ((toI (hdA (tlA (f9 a0 0))))+(toI (hdA (tlA a3))))) 2)));let a6:=(i (W (Int.tdiv (W ((toI (hdA (f9 a0 0)))+(toI (hdA a3)))) 2)));let a7:=(app s.eh1 [[a6,a5,(i (W (Int.tdiv (W ((toI (hdA (tlA (tlA (f9 a0 0)))))+(toI (hdA (tlA (tlA a3)))))) 2)))]]);let a8:=(inB (W (s.is6 - 1)) s.ns5);let a9:=(i (toI (hdA (tlA (f9 a0 0)))));let a10:=((Nat.blt (0+(W (s.is6 - 1)).toNat) (len s.eh1))&&(Nat.ble (0+3) (len a0)));let a11:=(i (toI (hdA (f9 a0 0))));let a12:=(app s.eh1 [[a11,a9,(i (toI (hdA (tlA (tlA (f9 a0 0))))))]]);let a13:=(i (toI (hdA (f9 a0 2))));let a14:=(rt tI (rt tI s.m9));let t2:=(A2 ⟨17,a14,t1.c7⟩);let t3:=(A2 ⟨17,(rt tI a14),t2.c7⟩);let a2:=(rt tI (rt tI a14));let t4:=(A2 ⟨6,a2,t3.c7⟩);(sl (decide (s.is6 < p.is4)) (sl ((cnE tI s.m9)&&true) (sl (Nat.beq t1.alt 1) (sl ((cnE tI (rt tI s.m9))&&true) (sl (Nat.beq t2.alt 1) (sl ((cnE tI a14)&&true) (sl (Nat.beq t3.alt 1) (sl ((cnE tI (rt tI a14))&&true) (sl (Nat.beq t4.alt 1) (sl (t4.is0==1) (sl (decide (s.is6 > 1)) (sl a8 (sl (a10&&(ba7 [(CK.int .i64),(CK.int .i64),(CK.int .i64)] (f9 a0 0))) (sl (inB (W (s.is6 - 2)) s.ns5) (sl (((Nat.blt (0+(W (s.is6 - 2)).toNat) (len s.eh1))&&(Nat.ble (0+3) (len (i6 s.eh1 (0+(W (s.is6 - 2)).toNat)))))&&(ba7 [(CK.int .i64),(CK.int .i64),(CK.int .i64)] a3)) (sl (t4.is0==2) (sl (decide (s.is6 > 0)) (sl a8 (sl (a10&&(ba7 [(CK.int .i64),(CK.int .i64),(CK.int .i64)] (f9 a0 0))) (sl (t4.is0==3) (sl (decide (s.is6 > 2)) (sl a8 (sl (a4&&(ba7 [(CK.int .i64)] (f9 a0 2))) (sl a1 (k ⟨1,(W (s.is6+1)),a2,t4.c7,(s.ns5+1),(app s.eh1 [[a11,a9,a13]])⟩) z) z) z) (sl a1 (k ⟨1,(W (s.is6+1)),a2,t4.c7,(s.ns5+1),a12⟩) z)) (sl a1 (k ⟨1,(W (s.is6+1)),a2,t4.c7,(s.ns5+1),a12⟩) z)) z) z) (sl (t4.is0==3) (sl (decide (s.is6 > 2)) (sl a8 (sl (a4&&(ba7 [(CK.int .i64)] (f9 a0 2))) (sl a1 (k ⟨1,(W (s.is6+1)),a2,t4.c7,(s.ns5+1),(app s.eh1 [[a6,a5,a13]])⟩) z) z) z) (sl a1 (k ⟨1,(W (s.is6+1)),a2,t4.c7,(s.ns5+1),a7⟩) z)) (sl a1 (k ⟨1,(W (s.is6+1)),a2,t4.c7,(s.ns5+1),a7⟩) z))) (sl (t4.is0==3) (sl (decide (s.is6 > 2)) (sl a8 (sl (a4&&(ba7 [(CK.int .i64)] (f9 a0 2))) (sl a1 (k ⟨1,(W (s.is6+1)),a2,t4.c7,(s.ns5+1),(app s.eh1 [[a6,a5,a13]])⟩) z) z) z) (sl a1 (k ⟨1,(W (s.is6+1)),a2,t4.c7,(s.ns5+1),a7⟩) z)) (sl a1 (k ⟨1,(W (s.is6+1)),a2,t4.c7,(s.ns5+1),a7⟩) z))) z) z) z) z) (sl (t4.is0==2) (sl (decide (s.is6 > 0)) (sl a8 (sl (a10&&(ba7 [(CK.int .i64),(CK.int .i64),(CK.int .i64)] (f9 a0 0))) (sl (t4.is0==3) (sl (decide (s.is6 > 2)) (sl a8 (sl (a4&&(ba7 [(CK.int .i64)] (f9 a0 2))) (sl a1 (k ⟨1,(W (s.is6+1)),a2,t4.c7,(s.ns5+1),(app s.eh1 [[a11,a9,a13]])⟩) z) z) z) (sl a1 (k ⟨1,(W (s.is6+1)),a2,t4.c7,(s.ns5+1),a12⟩) z)) (sl a1 (k ⟨1,(W (s.is6+1)),a2,t4.c7,(s.ns5+1),a12⟩) z)) z) z) (sl (t4.is0==3) (sl (decide (s.is6 > 2)) (sl a8 (sl (a4&&(ba7 [(CK.int .i64)] (f9 a0 2))) (sl a1 (k ⟨1,(W (s.is6+1)),a2,t4.c7,(s.ns5+1),(app s.eh1 [[(i (W (t1.is0 - 8))),(i (W (t2.is0 - 8))),a13]])⟩) z) z) z) (sl a1 (k ⟨1,(W (s.is6+1)),a2,t4.c7,(s.ns5+1),(app s.eh1 [[(i (W (t1.is0 - 8))),(i (W (t2.is0 - 8))),(i (W (t3.is0 - 8)))]])⟩) z)) (sl a1 (k ⟨1,(W (s.is6+1)),a2,t4.c7,(s.ns5+1),(app s.eh1 [[(i (W (t1.is0 - 8))),(i (W (t2.is0 - 8))),(i (W (t3.is0 - 8)))]])⟩) z))) (sl (t4.is0==3) (sl (decide (s.is6 > 2)) (sl a8 (sl (a4&&(ba7 [(CK.int .i64)] (f9 a0 2))) (sl a1 (k ⟨1,(W (s.is6+1)),a2,t4.c7,(s.ns5+1),(app s.eh1 [[(i (W (t1.is0 - 8))),(i (W (t2.is0 - 8))),a13]])⟩) z) z) z) (sl a1 (k ⟨1,(W (s.is6+1)),a2,t4.c7,(s.ns5+1),(app s.eh1 [[(i (W (t1.is0 - 8))),(i (W (t2.is0 - 8))),(i (W (t3.is0 - 8)))]])⟩) z)) (sl a1 (k ⟨1,(W (s.is6+1)),a2,t4.c7,(s.ns5+1),(app s.eh1 [[(i (W (t1.is0 - 8))),(i (W (t2.is0 - 8))),(i (W (t3.is0 - 8)))]])⟩) z)))) (sl (t4.is0==2) (sl (decide (s.is6 > 0)) (sl a8 (sl (a10&&(ba7 [(CK.int .i64),(CK.int .i64),(CK.int .i64)] (f9 a0 0))) (sl (t4.is0==3) (sl (decide (s.is6 > 2)) (sl a8 (sl (a4&&(ba7 [(CK.int .i64)] (f9 a0 2))) (sl a1 (k ⟨1,(W (s.is6+1)),a2,t4.c7,(s.ns5+1),(app s.eh1 [[a11,a9,a13]])⟩) z) z) z) (sl a1 (k ⟨1,(W (s.is6+1)),a2,t4.c7,(s.ns5+1),a12⟩) z)) (sl a1 (k ⟨1,(W (s.is6+1)),a2,t4.c7,(s.ns5+1),a12⟩) z)) z) z) (sl (t4.is0==3) (sl (decide (s.is6 > 2)) (sl a8 (sl (a4&&(ba7 [(CK.int .i64)] (f9 a0 2))) (sl a1 (k ⟨1,(W (s.is6+1)),a2,t4.c7,(s.ns5+1),(app s.eh1 [[(i (W (t1.is0 - 8))),(i (W (t2.is0 - 8))),a13]])⟩) z) z) z) (sl a1 (k ⟨1,(W (s.is6+1)),a2,t4.c7,(s.ns5+1),(app s.eh1 [[(i (W (t1.is0 - 8))),(i (W (t2.is0 - 8))),(i (W (t3.is0 - 8)))]])⟩) z)) (sl a1 (k ⟨1,(W (s.is6+1)),a2,t4.c7,(s.ns5+1),(app s.eh1 [[(i (W (t1.is0 - 8))),(i (W (t2.is0 - 8))),(i (W (t3.is0 - 8)))]])⟩) z))) (sl (t4.is0==3) (sl (decide (s.is6 > 2)) (sl a8 (sl (a4&&(ba7 [(CK.int .i64)] (f9 a0 2))) (sl a1 (k ⟨1,(W (s.is6+1)),a2,t4.c7,(s.ns5+1),(app s.eh1 [[(i (W (t1.is0 - 8))),(i (W (t2.is0 - 8))),a13]])⟩) z) z) z) (sl a1 (k ⟨1,(W (s.is6+1)),a2,t4.c7,(s.ns5+1),(app s.eh1 [[(i (W (t1.is0 - 8))),(i (W (t2.is0 - 8))),(i (W (t3.is0 - 8)))]])⟩) z)) (sl a1 (k ⟨1,(W (s.is6+1)),a2,t4.c7,(s.ns5+1),(app s.eh1 [[(i (W (t1.is0 - 8))),(i (W (t2.is0 - 8))),(i (W (t3.is0 - 8)))]])⟩) z)))) z) z) z) z) z) z) z) z) (e 2))
noncomputable def ea4 (p:U3) (s:p6):Stp p6:=(sel (Nat.beq s.ph 1) (o9 .next .exit .fail p s) (S1 .next .exit .fail p s))
noncomputable def Va9:Lo U3 p6:=⟨En Gb1,0,Oe1,[1,1,1,1,0,1,4,4],[3,4,5,6],.p,[⟨(ru2 3 ((.s (.o (.ptr 0 0 0 0)))::((.s (.o (.int .i64)))::((.s (.o .nil))::((.s (.o (.int .i64)))::(ru2 127 [])))))),[⟨0,2,true,(some [[(.c 1 (nL tI)),(.o (.int .i64))]])⟩],fun a H=>(⟨(toI (slT a 4))⟩,⟨0,(toI (slT a 6)),(rL tI (slT (rwT (elT H 0) 0) 0)),(toI (slT (rwT (elT H 0) 0) 1)),0,[]⟩)⟩,⟨(ru2 3 ((.s (.o (.ptr 0 0 0 0)))::((.s (.o (.int .i64)))::((.s (.o (.sl 1 0 (some 0) none)))::((.s (.o (.int .i64)))::(ru2 127 [])))))),[⟨0,2,true,(some [[(.c 1 (nL tI)),(.o (.int .i64))]])⟩,⟨27,3,true,none⟩],fun a H=>(⟨(toI (slT a 4))⟩,⟨1,(toI (slT a 6)),(rL tI (slT (rwT (elT H 0) 0) 0)),(toI (slT (rwT (elT H 0) 0) 1)),(slN (slT a 5)),(elT H 1)⟩)⟩],ea4,[(some 0,fun p s=>⟨(ra 3 ((.ptr 0 0 0 0)::((i p.is4)::((.v (.slice none 0 0))::((i s.is6)::(ra 11 ((i s.is6)::((i p.is4)::((b (decide (s.is6 < p.is4)))::(ra 113 [])))))))))),[⟨0,2,[[(eL tI s.m9),(i s.c7)]],true,false,0⟩]⟩),(some 0,fun p s=>⟨(ra 3 ((.ptr 0 0 0 0)::((i p.is4)::((.sl 1 0 s.ns5 0)::((i s.is6)::(ra 11 ((i s.is6)::((i p.is4)::((b (decide (s.is6 < p.is4)))::(ra 113 [])))))))))),[⟨0,2,[[(eL tI s.m9),(i s.c7)]],true,false,0⟩,⟨27,3,s.eh1,true,false,0⟩]⟩)],lc8⟩
theorem lc9:Va9.Ok:=Lo.ok [] (by kernel_rfl) .nil rfl (.cons (fun a H=>by kernel_rfl) (.cons (fun a H=>by kernel_rfl) .nil)) fun p s=>(.sel (Nat.beq s.ph 1) (.of @o9 (fun F _ _ _ _ _=>by unfold o9;(repeat' apply n7 (f:=F))<;>rfl) (by kernel_rfl)) (.of @S1 (fun F _ _ _ _ _=>by unfold S1;(repeat' apply n7 (f:=F))<;>rfl) (by kernel_rfl)))
noncomputable def ka3 (x:List Int):Option (b7×List b9):=let t1:=(A2 ⟨5,(rt tI x),0⟩);let t2:=(lp (ea4 (⟨(W (4+t1.is0))⟩:U3)) (⟨0,0,(rt tI (rt tI x)),t1.c7,0,[]⟩:p6));let t3:=(Va8 []);let t4:=(Va8 (lsL tV t2.2.ns5 (fun k=>i6 t2.2.eh1 (0+k))));let a0:=(f9 (i6 t2.2.eh1 0) 0);let a1:=(i (toI (hdA (tlA (tlA a0)))));let a2:=(i (W ((toI (hdA a0)) - 3)));let a3:=(setAt t2.2.eh1 1 (P6 (i6 t2.2.eh1 1) 0 [a2,(i (toI (hdA (tlA a0)))),a1]));let a4:=(i (W ((toI (hdA (tlA a0))) - 2)));(sl ((cnE tI x)&&true) (sl (Nat.beq t1.alt 1) (sl ((cnE tI (rt tI x))&&true) (sl (Nat.beq t2.1 1) (sl (Ha3 []) (sl t3 none (some ((.v (.slice none 0 0)),[]))) none) (sl (Nat.beq t2.1 2) (sl (okL tV t2.2.ns5 (fun k=>i6 t2.2.eh1 (0+k))) (sl (Ha3 (lsL tV t2.2.ns5 (fun k=>i6 t2.2.eh1 (0+k)))) (sl t4 (sl (inB 0 t2.2.ns5) (sl (((Nat.blt 0 (len t2.2.eh1))&&(Nat.ble (0+3) (len (i6 t2.2.eh1 0))))&&(ba7 [(CK.int .i64),(CK.int .i64),(CK.int .i64)] a0)) (sl (inB 1 t2.2.ns5) (sl ((Nat.blt 1 (len t2.2.eh1))&&(Nat.ble (0+3) (len (i6 t2.2.eh1 1)))) (sl (inB 2 t2.2.ns5) (sl ((Nat.blt 2 (len a3))&&(Nat.ble (0+3) (len (i6 a3 2)))) (sl (inB 3 t2.2.ns5) (sl ((Nat.blt 3 (len (setAt a3 2 (P6 (i6 a3 2) 0 [(i (toI (hdA a0))),a4,a1]))))&&(Nat.ble (0+3) (len (i6 (setAt a3 2 (P6 (i6 a3 2) 0 [(i (toI (hdA a0))),a4,a1])) 3)))) (some ((.sl 0 0 t2.2.ns5 0),[⟨27,3,(setAt (setAt a3 2 (P6 (i6 a3 2) 0 [(i (toI (hdA a0))),a4,a1])) 3 (P6 (i6 (setAt a3 2 (P6 (i6 a3 2) 0 [(i (toI (hdA a0))),a4,a1])) 3) 0 [(i (toI (hdA a0))),(i (toI (hdA (tlA a0)))),(i (W ((toI (hdA (tlA (tlA a0)))) - 1)))])),true,false,0⟩])) none) none) none) none) none) none) none) none) (some ((.sl 0 0 t2.2.ns5 0),[⟨27,3,t2.2.eh1,true,false,0⟩]))) none) none) none)) none) none) none)
noncomputable def f8 (x:List Int):List V3:=Y8 (one (r1L tV)) (ka3 x)
noncomputable def Qa5 (x:List Int):Bool:=okO (one (r1L tV)) (ka3 x)
noncomputable def ad3:Sum:=Y7 (Ba0 tI) (fun x=>.guard (Qa5 x) (.ret ((one (r1L tV)).enc (f8 x),[])))
theorem Kc6:g8 prog G 25 ad3:=Ua5 (bd b25 zc2) (one (r1L tV)) (o:=ka3) fun x=>Qa3 (.s .p (.s .p (.s .p (.s .p (.s (.s .p (.b (.u Va9.ls))) .p))))) [Va9.pr] (by kernel_rfl) (.cons lc9 .nil) (by kernel_rfl)
end Go.Ev.Ce
end
section
namespace Go.Ev.Ce
open Go Go.Ev Go.Ev.L Go.Proofs
set_option maxRecDepth 100000
noncomputable def ic3:List (Nat×Sum):=[]
theorem ad4:j7 prog G ic3:=trivial
structure Ca7 where
 n5:List Pln
 Ma3:List Pln
structure Z8 where
 is5:Int
noncomputable def Kc7 (p:Ca7) (s:Z8):St:=⟨((eL tP p.n5)::((eL tP p.Ma3)::(ra 3 ((i s.is5)::(ra 20 []))))),[]⟩
noncomputable def qa0 {α:Type} (k:Z8→α) (e:Nat→α) (z:α) (p:Ca7) (s:Z8):α:=(sl (decide (s.is5 < (↑(List.length p.n5):Int))) (sl (inB s.is5 (List.length p.n5)) (sl (inB s.is5 (List.length p.Ma3)) (sl (!(((gL tP p.n5 s.is5.toNat).n.x==(gL tP p.Ma3 s.is5.toNat).n.x)&&(((gL tP p.n5 s.is5.toNat).n.y==(gL tP p.Ma3 s.is5.toNat).n.y)&&(((gL tP p.n5 s.is5.toNat).n.z==(gL tP p.Ma3 s.is5.toNat).n.z)&&(((gL tP p.n5 s.is5.toNat).b==(gL tP p.Ma3 s.is5.toNat).b)&&true))))) (e 1) (k ⟨(W (s.is5+1))⟩)) z) z) (e 2))
noncomputable def va7 (p:Ca7) (s:Z8):Stp Z8:=qa0 .next .exit .fail p s
noncomputable def nb6:Lo Ca7 Z8:=⟨En ic3,0,Oe0,[1,1,0,1,4,4],[0,1,5],.p,[⟨((.s (.c 4 (nL tP)))::((.s (.c 4 (nL tP)))::(ru2 3 ((.s (.o (.int .i64)))::(ru2 20 []))))),[],fun a H=>(⟨(rL tP (slT a 0)),(rL tP (slT a 1))⟩,⟨(toI (slT a 5))⟩)⟩],va7,[(none,fun p s=>⟨[(b false)],[]⟩),(some 0,fun p s=>⟨((eL tP p.n5)::((eL tP p.Ma3)::(ra 3 ((i s.is5)::(ra 5 ((i s.is5)::((eL tP p.n5)::((i (↑(List.length p.n5):Int))::((b (decide (s.is5 < (↑(List.length p.n5):Int))))::(ra 11 [])))))))))),[]⟩)],Kc7⟩
theorem Kc8:nb6.Ok:=Lo.ok [] (by kernel_rfl) .nil rfl (.cons (fun a H=>by kernel_rfl) .nil) fun p s=>(.of @qa0 (fun F _ _ _ _ _=>by unfold qa0;(repeat' apply n7 (f:=F))<;>rfl) (by kernel_rfl))
noncomputable def Wa0 (x:List Pln) (y:List Pln):Option (b7×List b9):=let t1:=(lp (va7 (⟨(rt tP x),(rt tP y)⟩:Ca7)) (⟨0⟩:Z8));(sl ((↑(List.length x):Int) != (↑(List.length y):Int)) (some ((b false),[])) (sl ((cnE tP x)&&((cnE tP y)&&true)) (sl (Nat.beq t1.1 1) (some ((b false),[])) (sl (Nat.beq t1.1 2) (some ((b true),[])) none)) none))
noncomputable def Wa1 (x:List Pln) (y:List Pln):Bool:=Y8 (one r1B) (Wa0 x y)
noncomputable def Wa2 (x:List Pln) (y:List Pln):Bool:=okO (one r1B) (Wa0 x y)
noncomputable def zc3:Sum:=pa4 (Ba0 tP) (Ba0 tP) (fun x y=>.guard (Wa2 x y) (.ret ((one r1B).enc (Wa1 x y),[])))
theorem nd3:g8 prog G 23 zc3:=ub6 (bd b23 ad4) (one r1B) (o:=Wa0) fun x y=>Qa3 (.s .p (.s .p (.s (.s .p (.b (.u nb6.ls))) .p))) [nb6.pr] (by kernel_rfl) (.cons Kc8 .nil) (by kernel_rfl)
structure Ae8 where
 is6:Int
structure Ae9 where
 ns5:Nat
 eh0:List (List b7)
end Go.Ev.Ce
end
section
namespace Go.Ev.Ce
open Go Go.Ev Go.Ev.L Go.Proofs
set_option maxRecDepth 100000
structure nd4 where
 alt:Nat
 ns0:Nat
 eh0:List (List b7)
end Go.Ev.Ce
end
section
namespace Go.Ev.Ce
open Go Go.Ev Go.Ev.L Go.Proofs
set_option maxRecDepth 100000
structure Be0 where
 n5:List Pln
 c9:Int
 c7:Int
 d7:Int
 i9:Int
structure Be1 where
 is5:Int
end Go.Ev.Ce
end
section
namespace Go.Ev.Ce
open Go Go.Ev Go.Ev.L Go.Proofs
set_option maxRecDepth 100000
noncomputable def ad5:List (Nat×Sum):=[]
theorem Kc9:j7 prog G ad5:=trivial
noncomputable def qa1 (x:V3) (y:V3):V3:=(⟨(W (x.x - y.x)),(W (x.y - y.y)),(W (x.z - y.z))⟩:V3)
noncomputable def wb3:Sum:=pa4 (R7 tV) (R7 tV) (fun x y=>.ret ((one r1V).enc (qa1 x y),[]))
theorem Rb5:g8 prog G 108 wb3:=sa5 (bd Ye4 Kc9) fun x y=>A4 (by kernel_rfl)
noncomputable def Lc0:List (Nat×Sum):=[(108,wb3)]
theorem zc4:j7 prog G Lc0:=⟨Rb5,trivial⟩
noncomputable def sa7 (x:Pln):Pln:=let t1:=(qa1 (⟨0,0,0⟩:V3) x.n);(⟨t1,(W (0 - x.b))⟩:Pln)
noncomputable def Rb6:Sum:=Y7 (R7 tP) (fun x=>.ret ((one r1P).enc (sa7 x),[]))
theorem Lc1:g8 prog G 52 Rb6:=Bb6 (bd b52 zc4) fun x=>A4 (by kernel_rfl)
end Go.Ev.Ce
end
section
namespace Go.Ev.Ce
open Go Go.Ev Go.Ev.L Go.Proofs
set_option maxRecDepth 100000
noncomputable def Lc2:List (Nat×Sum):=[(186,Na1)]
theorem zc5:j7 prog G Lc2:=⟨ib2,trivial⟩
noncomputable def Ca8 (x:V3):Option (b7×List b9):=let t1:=(Y1 [x.x,x.y,x.z]);(sl (Y2 [x.x,x.y,x.z]) (sl (t1==0) (some ((.tup [(.agg [(i 0),(i 0),(i 0)]),(i 0)]),[])) (sl (t1==0) none (sl (t1==0) none (sl (t1==0) none (some ((.tup [(.agg [(i (W (Int.tdiv x.x t1))),(i (W (Int.tdiv x.y t1))),(i (W (Int.tdiv x.z t1)))]),(i t1)]),[])))))) none)
noncomputable def sa8 (x:V3):V3×Int:=Y8 (two r1V r1I) (Ca8 x)
noncomputable def Qa6 (x:V3):Bool:=okO (two r1V r1I) (Ca8 x)
noncomputable def Rb7:Sum:=Y7 (R7 tV) (fun x=>.guard (Qa6 x) (.ret ((two r1V r1I).enc (sa8 x),[])))
theorem Lc3:g8 prog G 198 Rb7:=Ua5 (bd bf7 zc5) (two r1V r1I) (o:=Ca8) fun x=>A4 (by kernel_rfl)
noncomputable def ac0:List (Nat×Sum):=[(85,Va5),(108,wb3),(142,eb1),(198,Rb7),(83,La5)]
theorem Rb8:j7 prog G ac0:=⟨cb2,Rb5,vb9,Lc3,Qa4,trivial⟩
noncomputable def la5 (x:V3) (y:V3) (z:V3):Option (b7×List b9):=let t1:=(ka0 x);let t2:=(ka0 y);let t3:=(ka0 z);let t4:=(qa1 y x);let t5:=(qa1 z x);let t6:=(aa6 t4 t5);let t7:=(sa8 t6);let t8:=(z8 t7.1 x);(sl (ka1 x) (sl (!t1) (some ((.tup [(.agg [(i 0),(i 0),(i 0),(i 0)]),(b false)]),[])) (sl (ka1 y) (sl (!t2) (some ((.tup [(.agg [(i 0),(i 0),(i 0),(i 0)]),(b false)]),[])) (sl (ka1 z) (sl (!t3) (some ((.tup [(.agg [(i 0),(i 0),(i 0),(i 0)]),(b false)]),[])) (sl (Qa6 t6) (some ((.tup [(.agg [(i t7.1.x),(i t7.1.y),(i t7.1.z),(i t8)]),(b (decide (t7.2 > 0)))]),[])) none)) none)) none)) none)
noncomputable def H6 (x:V3) (y:V3) (z:V3):Pln×Bool:=Y8 (two r1P r1B) (la5 x y z)
noncomputable def ea5 (x:V3) (y:V3) (z:V3):Bool:=okO (two r1P r1B) (la5 x y z)
noncomputable def Na3:Sum:=Xc8 (R7 tV) (R7 tV) (R7 tV) (fun x y z=>.guard (ea5 x y z) (.ret ((two r1P r1B).enc (H6 x y z),[])))
theorem ib3:g8 prog G 177 Na3:=Ne2 (bd af8 Rb8) (two r1P r1B) (o:=la5) fun x y z=>A4 (by kernel_rfl)
noncomputable def Lc4:List (Nat×Sum):=[(140,eb2),(85,Va5),(83,La5),(141,eb3)]
theorem zc6:j7 prog G Lc4:=⟨wb0,cb2,Qa4,wb1,trivial⟩
noncomputable def Ca9 (x:Pln) (y:V3):Option (b7×List b9):=let t1:=(va3 x);let t2:=(ka0 y);let t3:=(z8 x.n y);let t4:=(aa7 t3 x.b);(sl (va4 x) (sl (!t1) (some ((i 0),[])) (sl (ka1 y) (sl (!t2) (some ((i 0),[])) (sl (aa8 t3 x.b) (some ((i t4),[])) none)) none)) none)
noncomputable def fa3 (x:Pln) (y:V3):Int:=Y8 (one r1I) (Ca9 x y)
noncomputable def fa4 (x:Pln) (y:V3):Bool:=okO (one r1I) (Ca9 x y)
noncomputable def Da0:Sum:=pa4 (R7 tP) (R7 tV) (fun x y=>.guard (fa4 x y) (.ret ((one r1I).enc (fa3 x y),[])))
theorem Ja4:g8 prog G 88 Da0:=ub6 (bd b88 zc6) (one r1I) (o:=Ca9) fun x y=>A4 (by kernel_rfl)
structure Ja5 where
 da0:Int
 da1:Int
 da2:Int
 c9:Int
 c7:Int
 d7:Int
 i9:Int
noncomputable def zc7:List (Nat×Sum):=[(88,Da0)]
theorem mc0:j7 prog G zc7:=⟨Ja4,trivial⟩
structure Ja6 where
 alt:Nat
 bs0:Bool
noncomputable def na3 {α:Type} (kk:Ja6→α) (x:Ja5):α:=let t1:=(fa3 (⟨(⟨x.c9,x.c7,x.d7⟩:V3),x.i9⟩:Pln) (⟨x.da0,x.da1,x.da2⟩:V3));(sl (fa4 (⟨(⟨x.c9,x.c7,x.d7⟩:V3),x.i9⟩:Pln) (⟨x.da0,x.da1,x.da2⟩:V3)) (kk ⟨1,(t1 != 0)⟩) (kk ⟨0,false⟩))
noncomputable def Ja7 (x:Ja5):Ja6:=na3 (fun r=>r) x
noncomputable def Wa3 (x:Ja5) (r:Ja6):DT (b7×List b9):=(.ite (Nat.beq r.alt 1) (.ret ((b r.bs0),[⟨0,4,[[(i x.c9),(i x.c7),(i x.d7),(i x.i9)]],true,false,0⟩])) .fail)
theorem Lc5 {α β:Type} (F:α→β) (kk:Ja6→α) (x:Ja5):F (na3 kk x)=na3 (fun r=>F (kk r)) x:=by unfold na3;(repeat' apply n7 (f:=F))<;>rfl
noncomputable def Gb2:Sum:=Ua6 ⟨[(.agg [(.o (.int .i64)),(.o (.int .i64)),(.o (.int .i64))]),(.s (.o (.ptr 0 0 0 0)))],[⟨0,4,true,(some [[(.o (.int .i64)),(.o (.int .i64)),(.o (.int .i64)),(.o (.int .i64))]])⟩],fun a H=>(⟨(toI (slT (cellsOf (slT a 0)) 0)),(toI (slT (cellsOf (slT a 0)) 1)),(toI (slT (cellsOf (slT a 0)) 2)),(toI (slT (rwT (elT H 0) 0) 0)),(toI (slT (rwT (elT H 0) 0) 1)),(toI (slT (rwT (elT H 0) 0) 2)),(toI (slT (rwT (elT H 0) 0) 3))⟩,())⟩ (fun x=>Wa3 x (Ja7 x))
theorem zc8:g8 prog G 197 Gb2:=P8 (enc:=fun x=>⟨[(.agg [(i x.da0),(i x.da1),(i x.da2)]),(.ptr 0 0 0 0)],[⟨0,4,[[(i x.c9),(i x.c7),(i x.d7),(i x.i9)]],true,false,0⟩]⟩) (fun a H=>by kernel_rfl) (bd bf6 mc0) fun x=>A4 (Eq.trans (b:=na3 (fun r=>(Wa3 x r).run) x) (by kernel_rfl) (Lc5 (fun r=>(Wa3 x r).run) (fun r=>r) x).symm)
structure V7 where
 f7:List V3
 c9:Int
 c7:Int
 d7:Int
 i9:Int
noncomputable def va8:List (Nat×Sum):=[(197,Gb2)]
theorem ab1:j7 prog G va8:=⟨zc8,trivial⟩
structure I7 where
 f7:List V3
 is7:Int
 c9:Int
 c7:Int
 d7:Int
 i9:Int
structure o4 where
 is8:Int
noncomputable def Wa4 (p:I7) (s:o4):St:=⟨((eL tV p.f7)::((.fn 197 [(.ptr 0 0 0 0)])::(ra 5 ((i p.is7)::((i s.is8)::(ra 10 [])))))),[⟨0,4,[[(i p.c9),(i p.c7),(i p.d7),(i p.i9)]],true,false,0⟩]⟩
noncomputable def D9 {α:Type} (k:o4→α) (e:Nat→α) (z:α) (p:I7) (s:o4):α:=let t1:=(Ja7 ⟨(gL tV p.f7 s.is8.toNat).x,(gL tV p.f7 s.is8.toNat).y,(gL tV p.f7 s.is8.toNat).z,p.c9,p.c7,p.d7,p.i9⟩);(sl (decide (s.is8 < p.is7)) (sl (inB s.is8 (List.length p.f7)) (sl (Nat.beq t1.alt 1) (sl t1.bs0 (e 1) (k ⟨(W (s.is8+1))⟩)) z) z) (e 2))
noncomputable def F8 (p:I7) (s:o4):Stp o4:=D9 .next .exit .fail p s
noncomputable def da6:Lo I7 o4:=⟨En va8,1,md0,[1,0,1,4,4],[0,1,7,8],.p,[⟨((.s (.c 3 (nL tV)))::((.fn 197 [(.o (.ptr 0 0 0 0))])::(ru2 5 ((.s (.o (.int .i64)))::((.s (.o (.int .i64)))::(ru2 10 [])))))),[⟨0,4,true,(some [[(.o (.int .i64)),(.o (.int .i64)),(.o (.int .i64)),(.o (.int .i64))]])⟩],fun a H=>(⟨(rL tV (slT a 0)),(toI (slT a 7)),(toI (slT (rwT (elT H 0) 0) 0)),(toI (slT (rwT (elT H 0) 0) 1)),(toI (slT (rwT (elT H 0) 0) 2)),(toI (slT (rwT (elT H 0) 0) 3))⟩,⟨(toI (slT a 8))⟩)⟩],F8,[(none,fun p s=>⟨[(i s.is8)],[⟨0,4,[[(i p.c9),(i p.c7),(i p.d7),(i p.i9)]],true,false,0⟩]⟩),(some 0,fun p s=>⟨((eL tV p.f7)::((.fn 197 [(.ptr 0 0 0 0)])::(ra 5 ((i p.is7)::((i s.is8)::((b (decide (s.is8 < p.is7)))::(ra 9 []))))))),[⟨0,4,[[(i p.c9),(i p.c7),(i p.d7),(i p.i9)]],true,false,0⟩]⟩)],Wa4⟩
theorem Wa5:da6.Ok:=Lo.ok [] (by kernel_rfl) .nil rfl (.cons (fun a H=>by kernel_rfl) .nil) fun p s=>(.of @D9 (fun F _ _ _ _ _=>by unfold D9;(repeat' apply n7 (f:=F))<;>rfl) (by kernel_rfl))
structure V8 where
 alt:Nat
 is0:Int
noncomputable def E8 {α:Type} (kk:V8→α) (x:V7):α:=let t1:=(lp (F8 (⟨(rt tV x.f7),(↑(List.length x.f7):Int),x.c9,x.c7,x.d7,x.i9⟩:I7)) (⟨0⟩:o4));(sl ((cnE tV x.f7)&&true) (sl (Nat.beq t1.1 1) (kk ⟨1,t1.2.is8⟩) (sl (Nat.beq t1.1 2) (kk ⟨1,(-1)⟩) (kk ⟨0,0⟩))) (kk ⟨0,0⟩))
noncomputable def V9 (x:V7):V8:=E8 (fun r=>r) x
noncomputable def ha0 (x:V7) (r:V8):DT (b7×List b9):=(.ite (Nat.beq r.alt 1) (.ret ((i r.is0),[⟨0,4,[[(i x.c9),(i x.c7),(i x.d7),(i x.i9)]],true,false,0⟩])) .fail)
theorem ib4 {α β:Type} (F:α→β) (kk:V8→α) (x:V7):F (E8 kk x)=E8 (fun r=>F (kk r)) x:=by unfold E8;(repeat' apply n7 (f:=F))<;>rfl
noncomputable def Aa4:Sum:=Ua6 ⟨[(.s (.c 3 (nL tV))),(.fn 197 [(.o (.ptr 0 0 0 0))])],[⟨0,4,true,(some [[(.o (.int .i64)),(.o (.int .i64)),(.o (.int .i64)),(.o (.int .i64))]])⟩],fun a H=>(⟨(rL tV (slT a 0)),(toI (slT (rwT (elT H 0) 0) 0)),(toI (slT (rwT (elT H 0) 0) 1)),(toI (slT (rwT (elT H 0) 0) 2)),(toI (slT (rwT (elT H 0) 0) 3))⟩,())⟩ (fun x=>ha0 x (V9 x))
theorem eb7:g8 prog G 144 Aa4:=P8 (enc:=fun x=>⟨[(eL tV x.f7),(.fn 197 [(.ptr 0 0 0 0)])],[⟨0,4,[[(i x.c9),(i x.c7),(i x.d7),(i x.i9)]],true,false,0⟩]⟩) (fun a H=>by kernel_rfl) (bd qe7 ab1) fun x=>Qa3 (.s .p (.s (.s .p (.b (.u da6.ls))) .p)) [da6.pr] (by kernel_rfl) (.cons Wa5 .nil) (Eq.trans (b:=E8 (fun r=>(ha0 x r).run) x) (by kernel_rfl) (ib4 (fun r=>(ha0 x r).run) (fun r=>r) x).symm)
structure M9 where
 f7:List V3
 c9:Int
 c7:Int
 d7:Int
 i9:Int
noncomputable def Qa7:List (Nat×Sum):=[(144,Aa4)]
theorem Na4:j7 prog G Qa7:=⟨eb7,trivial⟩
structure N0 where
 alt:Nat
 bs0:Bool
noncomputable def A5 {α:Type} (kk:N0→α) (x:M9):α:=let t1:=(V9 ⟨(rt tV x.f7),x.c9,x.c7,x.d7,x.i9⟩);(sl ((cnE tV x.f7)&&true) (sl (Nat.beq t1.alt 1) (kk ⟨1,(decide (t1.is0≥0))⟩) (kk ⟨0,false⟩)) (kk ⟨0,false⟩))
noncomputable def p7 (x:M9):N0:=A5 (fun r=>r) x
noncomputable def Z9 (x:M9) (r:N0):DT (b7×List b9):=(.ite (Nat.beq r.alt 1) (.ret ((b r.bs0),[⟨0,4,[[(i x.c9),(i x.c7),(i x.d7),(i x.i9)]],true,false,0⟩])) .fail)
theorem Wa6 {α β:Type} (F:α→β) (kk:N0→α) (x:M9):F (A5 kk x)=A5 (fun r=>F (kk r)) x:=by unfold A5;(repeat' apply n7 (f:=F))<;>rfl
noncomputable def qa2:Sum:=Ua6 ⟨[(.s (.c 3 (nL tV))),(.fn 197 [(.o (.ptr 0 0 0 0))])],[⟨0,4,true,(some [[(.o (.int .i64)),(.o (.int .i64)),(.o (.int .i64)),(.o (.int .i64))]])⟩],fun a H=>(⟨(rL tV (slT a 0)),(toI (slT (rwT (elT H 0) 0) 0)),(toI (slT (rwT (elT H 0) 0) 1)),(toI (slT (rwT (elT H 0) 0) 2)),(toI (slT (rwT (elT H 0) 0) 3))⟩,())⟩ (fun x=>Z9 x (p7 x))
theorem Qa8:g8 prog G 174 qa2:=P8 (enc:=fun x=>⟨[(eL tV x.f7),(.fn 197 [(.ptr 0 0 0 0)])],[⟨0,4,[[(i x.c9),(i x.c7),(i x.d7),(i x.i9)]],true,false,0⟩]⟩) (fun a H=>by kernel_rfl) (bd Ge4 Na4) fun x=>A4 (Eq.trans (b:=A5 (fun r=>(Z9 x r).run) x) (by kernel_rfl) (Wa6 (fun r=>(Z9 x r).run) (fun r=>r) x).symm)
noncomputable def pb3:List (Nat×Sum):=[]
theorem ac4:j7 prog G pb3:=trivial
@[reducible] noncomputable def qa3:Sum:=m8 (En pb3) Ae0
theorem xa7:g8 prog G 119 qa3:=bd Ye6 ac4
noncomputable def Qa9:List (Nat×Sum):=[(177,Na3),(174,qa2),(119,qa3)]
theorem Lc6:j7 prog G Qa9:=⟨ib3,Qa8,xa7,trivial⟩
structure aa9 where
 is3:Int
 is4:Int
 is9:Int
 r8:Int
 T4:Int
 n9:Int
 xa1:Int
 b8:List V3
 d9:List V3
structure H7 where
 B4:Int
noncomputable def zc9 (p:aa9) (s:H7):St:=⟨(.unk::((.ptr 0 0 0 0)::(.unk::((i p.is3)::((i p.is4)::(ra 4 ((i p.is9)::((i p.r8)::(ra 5 ((i p.T4)::((i p.n9)::(ra 5 ((i p.xa1)::((i s.B4)::(ra 35 ((i 0)::(.unk::((.ptr 1 0 0 0)::((.ptr 2 0 0 0)::(ra 8 [])))))))))))))))))))),[⟨0,1,[[(eL tV p.b8)]],true,false,0⟩,⟨0,1,[[(eL tV p.d9)]],true,false,0⟩,⟨0,1,[[(b false)]],true,false,0⟩]⟩
noncomputable def la6 {α:Type} (k:H7→α) (e:Nat→α) (z:α) (p:aa9) (s:H7):α:=let t1:=(H6 (gL tV p.b8 s.B4.toNat) (gL tV p.b8 p.is4.toNat) (gL tV p.b8 p.is3.toNat));let t2:=(p7 ⟨(rt tV p.d9),t1.1.n.x,t1.1.n.y,t1.1.n.z,t1.1.b⟩);(sl (decide (s.B4 < p.xa1)) (sl (inB s.B4 (List.length p.b8)) (sl (inB p.is4 (List.length p.b8)) (sl (inB p.is3 (List.length p.b8)) (sl (ea5 (gL tV p.b8 s.B4.toNat) (gL tV p.b8 p.is4.toNat) (gL tV p.b8 p.is3.toNat)) (sl t1.2 (sl t1.2 (sl ((cnE tV p.d9)&&true) (sl (Nat.beq t2.alt 1) (e 1) z) z) (k ⟨(W (s.B4+1))⟩)) (sl t1.2 z (k ⟨(W (s.B4+1))⟩))) z) z) z) z) (e 2))
noncomputable def N1 (p:aa9) (s:H7):Stp H7:=la6 .next .exit .fail p s
noncomputable def eb8:Lo aa9 H7:=⟨En Qa9,0,Fd0,[1,0,1,4,4,1,4,4,1,1,0,4,1,1,4,4,1,1,0,4,1,1,4,4],[1,3,4,9,10,16,17,23,24,60,62,63],.p,[⟨((.s (.o .unk))::((.s (.o (.ptr 0 0 0 0)))::((.s (.o .unk))::((.s (.o (.int .i64)))::((.s (.o (.int .i64)))::(ru2 4 ((.s (.o (.int .i64)))::((.s (.o (.int .i64)))::(ru2 5 ((.s (.o (.int .i64)))::((.s (.o (.int .i64)))::(ru2 5 ((.s (.o (.int .i64)))::((.s (.o (.int .i64)))::(ru2 35 ((.s (.o (.lit .i64 0)))::((.s (.o .unk))::((.s (.o (.ptr 1 0 0 0)))::((.s (.o (.ptr 2 0 0 0)))::(ru2 8 [])))))))))))))))))))),[⟨0,1,true,(some [[(.c 3 (nL tV))]])⟩,⟨0,1,true,(some [[(.c 3 (nL tV))]])⟩,⟨0,1,true,(some [[(.o (.blit false))]])⟩],fun a H=>(⟨(toI (slT a 3)),(toI (slT a 4)),(toI (slT a 9)),(toI (slT a 10)),(toI (slT a 16)),(toI (slT a 17)),(toI (slT a 23)),(rL tV (slT (rwT (elT H 0) 0) 0)),(rL tV (slT (rwT (elT H 1) 0) 0))⟩,⟨(toI (slT a 24))⟩)⟩],N1,[(none,fun p s=>let t1:=(H6 (gL tV p.b8 s.B4.toNat) (gL tV p.b8 p.is4.toNat) (gL tV p.b8 p.is3.toNat));let t2:=(p7 ⟨(rt tV p.d9),t1.1.n.x,t1.1.n.y,t1.1.n.z,t1.1.b⟩);⟨(.unk::((.ptr 0 0 0 0)::(.unk::((i p.is3)::((i p.is4)::((i s.B4)::((.ptr 3 0 0 0)::((b t1.2)::(.unk::((i p.is9)::((i p.r8)::(ra 5 ((i p.T4)::((i p.n9)::(ra 5 ((i p.xa1)::((i s.B4)::((b (decide (s.B4 < p.xa1)))::((i s.B4)::((.tup [(.agg [(i t1.1.n.x),(i t1.1.n.y),(i t1.1.n.z),(i t1.1.b)]),(b t1.2)])::((eL tV p.b8)::((i s.B4)::((.tptr [(i (gL tV p.b8 s.B4.toNat).x),(i (gL tV p.b8 s.B4.toNat).y),(i (gL tV p.b8 s.B4.toNat).z)])::((.agg [(i (gL tV p.b8 s.B4.toNat).x),(i (gL tV p.b8 s.B4.toNat).y),(i (gL tV p.b8 s.B4.toNat).z)])::((eL tV p.b8)::((i p.is4)::((.tptr [(i (gL tV p.b8 p.is4.toNat).x),(i (gL tV p.b8 p.is4.toNat).y),(i (gL tV p.b8 p.is4.toNat).z)])::((.agg [(i (gL tV p.b8 p.is4.toNat).x),(i (gL tV p.b8 p.is4.toNat).y),(i (gL tV p.b8 p.is4.toNat).z)])::((eL tV p.b8)::((i p.is3)::((.tptr [(i (gL tV p.b8 p.is3.toNat).x),(i (gL tV p.b8 p.is3.toNat).y),(i (gL tV p.b8 p.is3.toNat).z)])::((.agg [(i (gL tV p.b8 p.is3.toNat).x),(i (gL tV p.b8 p.is3.toNat).y),(i (gL tV p.b8 p.is3.toNat).z)])::((.tup [(.agg [(i t1.1.n.x),(i t1.1.n.y),(i t1.1.n.z),(i t1.1.b)]),(b t1.2)])::((.agg [(i t1.1.n.x),(i t1.1.n.y),(i t1.1.n.z),(i t1.1.b)])::((b t1.2)::((b t1.2)::((b true)::(.unk::((.agg [(i t1.1.n.x),(i t1.1.n.y),(i t1.1.n.z),(i t1.1.b)])::((b false)::((b true)::((b true)::(.unk::(u::(u::(u::(u::((b true)::((b true)::(ra 3 ((i 1)::(.unk::((.ptr 1 0 0 0)::((.ptr 2 0 0 0)::(ra 8 []))))))))))))))))))))))))))))))))))))))))))))))))))))))),[⟨0,1,[[(eL tV p.b8)]],true,false,0⟩,⟨0,1,[[(eL tV p.d9)]],true,false,0⟩,⟨0,1,[[(b (!t2.bs0))]],true,false,0⟩,⟨0,4,[[(i t1.1.n.x),(i t1.1.n.y),(i t1.1.n.z),(i t1.1.b)]],true,false,0⟩,⟨0,4,[[(i t1.1.n.x),(i t1.1.n.y),(i t1.1.n.z),(i t1.1.b)]],true,false,0⟩]⟩),(some 4,fun p s=>⟨(.unk::((.ptr 0 0 0 0)::(.unk::((i p.is3)::((i p.is4)::(ra 4 ((i p.is9)::((i p.r8)::(ra 5 ((i p.T4)::((i p.n9)::(ra 5 ((i p.xa1)::((i s.B4)::((b (decide (s.B4 < p.xa1)))::(ra 34 ((i 0)::(.unk::((.ptr 1 0 0 0)::((.ptr 2 0 0 0)::(ra 8 []))))))))))))))))))))),[⟨0,1,[[(eL tV p.b8)]],true,false,0⟩,⟨0,1,[[(eL tV p.d9)]],true,false,0⟩,⟨0,1,[[(b false)]],true,false,0⟩]⟩)],zc9⟩
theorem Ac0:eb8.OkM:=Lo.okM [] (by kernel_rfl) .nil rfl (.cons (fun a H=>by kernel_rfl) .nil) fun p s=>(.of @la6 (fun F _ _ _ _ _=>by unfold la6;(repeat' apply n7 (f:=F))<;>rfl) (by kernel_rfl))
structure ha3 where
 is3:Int
 is9:Int
 r8:Int
 T4:Int
structure K4 where
 n9:Int
 b8:List V3
 d9:List V3
noncomputable def Ac1 (p:ha3) (s:K4):St:=⟨(.unk::((.ptr 0 0 0 0)::(.unk::((i p.is3)::(ra 5 ((i p.is9)::((i p.r8)::(ra 5 ((i p.T4)::((i s.n9)::(ra 42 ((i 0)::(.unk::((.ptr 1 0 0 0)::((.ptr 2 0 0 0)::(ra 8 [])))))))))))))))),[⟨0,1,[[(eL tV s.b8)]],true,false,0⟩,⟨0,1,[[(eL tV s.d9)]],true,false,0⟩,⟨0,1,[[(b false)]],true,false,0⟩]⟩
noncomputable def la7 {α:Type} (k:K4→α) (e:Nat→α) (z:α) (p:ha3) (s:K4):α:=let t1:=(lp (N1 (⟨p.is3,s.n9,p.is9,p.r8,p.T4,s.n9,(↑(s.n9.toNat - 0):Int),(rt tV s.b8),(rt tV s.d9)⟩:aa9)) (⟨0⟩:H7));(sl (decide (s.n9 < p.T4)) (sl (inB s.n9 ((List.length s.b8)+1)) (sl ((cnE tV s.b8)&&((cnE tV s.d9)&&true)) (sl (Nat.beq t1.1 1) (e 1) (sl (Nat.beq t1.1 2) (k ⟨(W (s.n9+1)),(rt tV s.b8),(rt tV s.d9)⟩) z)) z) z) (e 2))
noncomputable def U4 (p:ha3) (s:K4):Stp K4:=la7 .next .exit .fail p s
noncomputable def eb9:Lo ha3 K4:=⟨En Qa9,0,Fd0,[1,0,1,4,4,1,4,4,1,1,0,4,1,1,4,4],[1,3,9,10,16,17,60,62,63],(.s .p (.s .p (.s (.b (.s .p (.s .p (.b (.u eb8.lsM))))) .p))),[⟨((.s (.o .unk))::((.s (.o (.ptr 0 0 0 0)))::((.s (.o .unk))::((.s (.o (.int .i64)))::(ru2 5 ((.s (.o (.int .i64)))::((.s (.o (.int .i64)))::(ru2 5 ((.s (.o (.int .i64)))::((.s (.o (.int .i64)))::(ru2 42 ((.s (.o (.lit .i64 0)))::((.s (.o .unk))::((.s (.o (.ptr 1 0 0 0)))::((.s (.o (.ptr 2 0 0 0)))::(ru2 8 [])))))))))))))))),[⟨0,1,true,(some [[(.c 3 (nL tV))]])⟩,⟨0,1,true,(some [[(.c 3 (nL tV))]])⟩,⟨0,1,true,(some [[(.o (.blit false))]])⟩],fun a H=>(⟨(toI (slT a 3)),(toI (slT a 9)),(toI (slT a 10)),(toI (slT a 16))⟩,⟨(toI (slT a 17)),(rL tV (slT (rwT (elT H 0) 0) 0)),(rL tV (slT (rwT (elT H 1) 0) 0))⟩)⟩],U4,[(none,fun p s=>let t1:=(lp (N1 (⟨p.is3,s.n9,p.is9,p.r8,p.T4,s.n9,(↑(s.n9.toNat - 0):Int),(rt tV s.b8),(rt tV s.d9)⟩:aa9)) (⟨0⟩:H7));let t2:=(H6 (gL tV (rt tV s.b8) t1.2.B4.toNat) (gL tV (rt tV s.b8) s.n9.toNat) (gL tV (rt tV s.b8) p.is3.toNat));let t3:=(p7 ⟨(rt tV (rt tV s.d9)),t2.1.n.x,t2.1.n.y,t2.1.n.z,t2.1.b⟩);⟨(.unk::((.ptr 0 0 0 0)::(.unk::((i p.is3)::((i s.n9)::((i t1.2.B4)::((.ptr 3 0 0 0)::((b t2.2)::(.unk::((i p.is9)::((i p.r8)::(ra 5 ((i p.T4)::((i s.n9)::(ra 5 ((i (↑(s.n9.toNat - 0):Int))::((i t1.2.B4)::((b (decide (t1.2.B4 < (↑(s.n9.toNat - 0):Int))))::((i t1.2.B4)::((.tup [(.agg [(i t2.1.n.x),(i t2.1.n.y),(i t2.1.n.z),(i t2.1.b)]),(b t2.2)])::((eL tV (rt tV s.b8))::((i t1.2.B4)::((.tptr [(i (gL tV (rt tV s.b8) t1.2.B4.toNat).x),(i (gL tV (rt tV s.b8) t1.2.B4.toNat).y),(i (gL tV (rt tV s.b8) t1.2.B4.toNat).z)])::((.agg [(i (gL tV (rt tV s.b8) t1.2.B4.toNat).x),(i (gL tV (rt tV s.b8) t1.2.B4.toNat).y),(i (gL tV (rt tV s.b8) t1.2.B4.toNat).z)])::((eL tV (rt tV s.b8))::((i s.n9)::((.tptr [(i (gL tV (rt tV s.b8) s.n9.toNat).x),(i (gL tV (rt tV s.b8) s.n9.toNat).y),(i (gL tV (rt tV s.b8) s.n9.toNat).z)])::((.agg [(i (gL tV (rt tV s.b8) s.n9.toNat).x),(i (gL tV (rt tV s.b8) s.n9.toNat).y),(i (gL tV (rt tV s.b8) s.n9.toNat).z)])::((eL tV (rt tV s.b8))::((i p.is3)::((.tptr [(i (gL tV (rt tV s.b8) p.is3.toNat).x),(i (gL tV (rt tV s.b8) p.is3.toNat).y),(i (gL tV (rt tV s.b8) p.is3.toNat).z)])::((.agg [(i (gL tV (rt tV s.b8) p.is3.toNat).x),(i (gL tV (rt tV s.b8) p.is3.toNat).y),(i (gL tV (rt tV s.b8) p.is3.toNat).z)])::((.tup [(.agg [(i t2.1.n.x),(i t2.1.n.y),(i t2.1.n.z),(i t2.1.b)]),(b t2.2)])::((.agg [(i t2.1.n.x),(i t2.1.n.y),(i t2.1.n.z),(i t2.1.b)])::((b t2.2)::((b t2.2)::((b true)::(.unk::((.agg [(i t2.1.n.x),(i t2.1.n.y),(i t2.1.n.z),(i t2.1.b)])::((b false)::((b true)::((b true)::(.unk::(u::(u::(u::(u::((b true)::((b true)::(ra 3 ((i 1)::(.unk::((.ptr 1 0 0 0)::((.ptr 2 0 0 0)::(ra 8 []))))))))))))))))))))))))))))))))))))))))))))))))))))))),[⟨0,1,[[(eL tV (rt tV s.b8))]],true,false,0⟩,⟨0,1,[[(eL tV (rt tV s.d9))]],true,false,0⟩,⟨0,1,[[(b (!t3.bs0))]],true,false,0⟩,⟨0,4,[[(i t2.1.n.x),(i t2.1.n.y),(i t2.1.n.z),(i t2.1.b)]],true,false,0⟩,⟨0,4,[[(i t2.1.n.x),(i t2.1.n.y),(i t2.1.n.z),(i t2.1.b)]],true,false,0⟩]⟩),(some 2,fun p s=>⟨(.unk::((.ptr 0 0 0 0)::(.unk::((i p.is3)::(ra 5 ((i p.is9)::((i p.r8)::(ra 5 ((i p.T4)::((i s.n9)::((b (decide (s.n9 < p.T4)))::(ra 41 ((i 0)::(.unk::((.ptr 1 0 0 0)::((.ptr 2 0 0 0)::(ra 8 []))))))))))))))))),[⟨0,1,[[(eL tV s.b8)]],true,false,0⟩,⟨0,1,[[(eL tV s.d9)]],true,false,0⟩,⟨0,1,[[(b false)]],true,false,0⟩]⟩)],Ac1⟩
theorem Ac2:eb9.OkM:=Lo.okM [eb8.prM] (by kernel_rfl) (.cons Ac0 .nil) rfl (.cons (fun a H=>by kernel_rfl) .nil) fun p s=>(.of @la7 (fun F _ _ _ _ _=>by unfold la7;(repeat' apply n7 (f:=F))<;>rfl) (by kernel_rfl))
structure va9 where
 is9:Int
structure T7 where
 r8:Int
 b8:List V3
 d9:List V3
noncomputable def Ac3 (p:va9) (s:T7):St:=⟨(.unk::((.ptr 0 0 0 0)::(ra 7 ((i p.is9)::((i s.r8)::(ra 49 ((i 0)::(.unk::((.ptr 1 0 0 0)::((.ptr 2 0 0 0)::(ra 8 []))))))))))),[⟨0,1,[[(eL tV s.b8)]],true,false,0⟩,⟨0,1,[[(eL tV s.d9)]],true,false,0⟩,⟨0,1,[[(b false)]],true,false,0⟩]⟩
noncomputable def la8 {α:Type} (k:T7→α) (e:Nat→α) (z:α) (p:va9) (s:T7):α:=let t1:=(lp (U4 (⟨s.r8,p.is9,s.r8,(↑(s.r8.toNat - 0):Int)⟩:ha3)) (⟨0,(rt tV s.b8),(rt tV s.d9)⟩:K4));(sl (decide (s.r8 < p.is9)) (sl (inB s.r8 ((List.length s.b8)+1)) (sl ((cnE tV s.b8)&&((cnE tV s.d9)&&true)) (sl (Nat.beq t1.1 1) (e 1) (sl (Nat.beq t1.1 2) (k ⟨(W (s.r8+1)),t1.2.b8,t1.2.d9⟩) z)) z) z) (e 2))
noncomputable def ja4 (p:va9) (s:T7):Stp T7:=la8 .next .exit .fail p s
noncomputable def fb0:Lo va9 T7:=⟨En Qa9,0,Fd0,[1,0,1,4,4,1,4,4],[1,9,10,60,62,63],(.s .p (.s .p (.s (.b (.s .p (.s .p (.b (.u eb9.lsM))))) .p))),[⟨((.s (.o .unk))::((.s (.o (.ptr 0 0 0 0)))::(ru2 7 ((.s (.o (.int .i64)))::((.s (.o (.int .i64)))::(ru2 49 ((.s (.o (.lit .i64 0)))::((.s (.o .unk))::((.s (.o (.ptr 1 0 0 0)))::((.s (.o (.ptr 2 0 0 0)))::(ru2 8 []))))))))))),[⟨0,1,true,(some [[(.c 3 (nL tV))]])⟩,⟨0,1,true,(some [[(.c 3 (nL tV))]])⟩,⟨0,1,true,(some [[(.o (.blit false))]])⟩],fun a H=>(⟨(toI (slT a 9))⟩,⟨(toI (slT a 10)),(rL tV (slT (rwT (elT H 0) 0) 0)),(rL tV (slT (rwT (elT H 1) 0) 0))⟩)⟩],ja4,[(none,fun p s=>let t1:=(lp (U4 (⟨s.r8,p.is9,s.r8,(↑(s.r8.toNat - 0):Int)⟩:ha3)) (⟨0,(rt tV s.b8),(rt tV s.d9)⟩:K4));let t2:=(lp (N1 (⟨s.r8,t1.2.n9,p.is9,s.r8,(↑(s.r8.toNat - 0):Int),t1.2.n9,(↑(t1.2.n9.toNat - 0):Int),(rt tV t1.2.b8),(rt tV t1.2.d9)⟩:aa9)) (⟨0⟩:H7));let t3:=(H6 (gL tV (rt tV t1.2.b8) t2.2.B4.toNat) (gL tV (rt tV t1.2.b8) t1.2.n9.toNat) (gL tV (rt tV t1.2.b8) s.r8.toNat));let t4:=(p7 ⟨(rt tV (rt tV t1.2.d9)),t3.1.n.x,t3.1.n.y,t3.1.n.z,t3.1.b⟩);⟨(.unk::((.ptr 0 0 0 0)::(.unk::((i s.r8)::((i t1.2.n9)::((i t2.2.B4)::((.ptr 3 0 0 0)::((b t3.2)::(.unk::((i p.is9)::((i s.r8)::(ra 5 ((i (↑(s.r8.toNat - 0):Int))::((i t1.2.n9)::(ra 5 ((i (↑(t1.2.n9.toNat - 0):Int))::((i t2.2.B4)::((b (decide (t2.2.B4 < (↑(t1.2.n9.toNat - 0):Int))))::((i t2.2.B4)::((.tup [(.agg [(i t3.1.n.x),(i t3.1.n.y),(i t3.1.n.z),(i t3.1.b)]),(b t3.2)])::((eL tV (rt tV t1.2.b8))::((i t2.2.B4)::((.tptr [(i (gL tV (rt tV t1.2.b8) t2.2.B4.toNat).x),(i (gL tV (rt tV t1.2.b8) t2.2.B4.toNat).y),(i (gL tV (rt tV t1.2.b8) t2.2.B4.toNat).z)])::((.agg [(i (gL tV (rt tV t1.2.b8) t2.2.B4.toNat).x),(i (gL tV (rt tV t1.2.b8) t2.2.B4.toNat).y),(i (gL tV (rt tV t1.2.b8) t2.2.B4.toNat).z)])::((eL tV (rt tV t1.2.b8))::((i t1.2.n9)::((.tptr [(i (gL tV (rt tV t1.2.b8) t1.2.n9.toNat).x),(i (gL tV (rt tV t1.2.b8) t1.2.n9.toNat).y),(i (gL tV (rt tV t1.2.b8) t1.2.n9.toNat).z)])::((.agg [(i (gL tV (rt tV t1.2.b8) t1.2.n9.toNat).x),(i (gL tV (rt tV t1.2.b8) t1.2.n9.toNat).y),(i (gL tV (rt tV t1.2.b8) t1.2.n9.toNat).z)])::((eL tV (rt tV t1.2.b8))::((i s.r8)::((.tptr [(i (gL tV (rt tV t1.2.b8) s.r8.toNat).x),(i (gL tV (rt tV t1.2.b8) s.r8.toNat).y),(i (gL tV (rt tV t1.2.b8) s.r8.toNat).z)])::((.agg [(i (gL tV (rt tV t1.2.b8) s.r8.toNat).x),(i (gL tV (rt tV t1.2.b8) s.r8.toNat).y),(i (gL tV (rt tV t1.2.b8) s.r8.toNat).z)])::((.tup [(.agg [(i t3.1.n.x),(i t3.1.n.y),(i t3.1.n.z),(i t3.1.b)]),(b t3.2)])::((.agg [(i t3.1.n.x),(i t3.1.n.y),(i t3.1.n.z),(i t3.1.b)])::((b t3.2)::((b t3.2)::((b true)::(.unk::((.agg [(i t3.1.n.x),(i t3.1.n.y),(i t3.1.n.z),(i t3.1.b)])::((b false)::((b true)::((b true)::(.unk::(u::(u::(u::(u::((b true)::((b true)::(ra 3 ((i 1)::(.unk::((.ptr 1 0 0 0)::((.ptr 2 0 0 0)::(ra 8 []))))))))))))))))))))))))))))))))))))))))))))))))))))))),[⟨0,1,[[(eL tV (rt tV t1.2.b8))]],true,false,0⟩,⟨0,1,[[(eL tV (rt tV t1.2.d9))]],true,false,0⟩,⟨0,1,[[(b (!t4.bs0))]],true,false,0⟩,⟨0,4,[[(i t3.1.n.x),(i t3.1.n.y),(i t3.1.n.z),(i t3.1.b)]],true,false,0⟩,⟨0,4,[[(i t3.1.n.x),(i t3.1.n.y),(i t3.1.n.z),(i t3.1.b)]],true,false,0⟩]⟩),(some 0,fun p s=>⟨(.unk::((.ptr 0 0 0 0)::(ra 7 ((i p.is9)::((i s.r8)::((b (decide (s.r8 < p.is9)))::(ra 48 ((i 0)::(.unk::((.ptr 1 0 0 0)::((.ptr 2 0 0 0)::(ra 8 [])))))))))))),[⟨0,1,[[(eL tV s.b8)]],true,false,0⟩,⟨0,1,[[(eL tV s.d9)]],true,false,0⟩,⟨0,1,[[(b false)]],true,false,0⟩]⟩)],Ac3⟩
theorem Ac4:fb0.OkM:=Lo.okM [eb9.prM] (by kernel_rfl) (.cons Ac2 .nil) rfl (.cons (fun a H=>by kernel_rfl) .nil) fun p s=>(.of @la8 (fun F _ _ _ _ _=>by unfold la8;(repeat' apply n7 (f:=F))<;>rfl) (by kernel_rfl))
noncomputable def La7 (x:List V3):Option (b7×List b9):=let t1:=(lp (ja4 (⟨(↑(List.length x):Int)⟩:va9)) (⟨0,(rt tV x),(rt tV x)⟩:T7));let t2:=(lp (U4 (⟨t1.2.r8,(↑(List.length x):Int),t1.2.r8,(↑(t1.2.r8.toNat - 0):Int)⟩:ha3)) (⟨0,(rt tV t1.2.b8),(rt tV t1.2.d9)⟩:K4));let t3:=(lp (N1 (⟨t1.2.r8,t2.2.n9,(↑(List.length x):Int),t1.2.r8,(↑(t1.2.r8.toNat - 0):Int),t2.2.n9,(↑(t2.2.n9.toNat - 0):Int),(rt tV t2.2.b8),(rt tV t2.2.d9)⟩:aa9)) (⟨0⟩:H7));let t4:=(H6 (gL tV (rt tV t2.2.b8) t3.2.B4.toNat) (gL tV (rt tV t2.2.b8) t2.2.n9.toNat) (gL tV (rt tV t2.2.b8) t1.2.r8.toNat));let t5:=(p7 ⟨(rt tV (rt tV t2.2.d9)),t4.1.n.x,t4.1.n.y,t4.1.n.z,t4.1.b⟩);(sl ((cnE tV x)&&((cnE tV x)&&true)) (sl (Nat.beq t1.1 1) (some ((b (!t5.bs0)),[])) (sl (Nat.beq t1.1 2) (some ((b true),[])) none)) none)
noncomputable def cb3 (x:List V3):Bool:=Y8 (one r1B) (La7 x)
noncomputable def cb4 (x:List V3):Bool:=okO (one r1B) (La7 x)
noncomputable def ic4:Sum:=Y7 (Ba0 tV) (fun x=>.guard (cb4 x) (.ret ((one r1B).enc (cb3 x),[])))
theorem ad6:g8 prog G 175 ic4:=Ua5 (bd af7 Lc6) (one r1B) (o:=La7) fun x=>md1 (.s .p (.s (.s .p (.b (.i (.s .p (.b (.u fb0.lsM)))))) .p)) [fb0.prM] (by kernel_rfl) (.cons Ac4 .nil) (by kernel_rfl)
end Go.Ev.Ce
end
section
namespace Go.Ev.Ce
open Go Go.Ev Go.Ev.L Go.Proofs
set_option maxRecDepth 100000
structure xa8 where
 da0:Int
 da1:Int
 da2:Int
 c9:Int
 c7:Int
 d7:Int
 i9:Int
noncomputable def ac5:List (Nat×Sum):=[(88,Da0)]
theorem Rb9:j7 prog G ac5:=⟨Ja4,trivial⟩
structure xa9 where
 alt:Nat
 bs0:Bool
noncomputable def ea6 {α:Type} (kk:xa9→α) (x:xa8):α:=let t1:=(fa3 (⟨(⟨x.c9,x.c7,x.d7⟩:V3),x.i9⟩:Pln) (⟨x.da0,x.da1,x.da2⟩:V3));(sl (fa4 (⟨(⟨x.c9,x.c7,x.d7⟩:V3),x.i9⟩:Pln) (⟨x.da0,x.da1,x.da2⟩:V3)) (kk ⟨1,(decide (t1 > 0))⟩) (kk ⟨0,false⟩))
noncomputable def ya0 (x:xa8):xa9:=ea6 (fun r=>r) x
noncomputable def Ha4 (x:xa8) (r:xa9):DT (b7×List b9):=(.ite (Nat.beq r.alt 1) (.ret ((b r.bs0),[⟨0,4,[[(i x.c9),(i x.c7),(i x.d7),(i x.i9)]],true,false,0⟩])) .fail)
theorem mc1 {α β:Type} (F:α→β) (kk:xa9→α) (x:xa8):F (ea6 kk x)=ea6 (fun r=>F (kk r)) x:=by unfold ea6;(repeat' apply n7 (f:=F))<;>rfl
noncomputable def pb4:Sum:=Ua6 ⟨[(.agg [(.o (.int .i64)),(.o (.int .i64)),(.o (.int .i64))]),(.s (.o (.ptr 0 0 0 0)))],[⟨0,4,true,(some [[(.o (.int .i64)),(.o (.int .i64)),(.o (.int .i64)),(.o (.int .i64))]])⟩],fun a H=>(⟨(toI (slT (cellsOf (slT a 0)) 0)),(toI (slT (cellsOf (slT a 0)) 1)),(toI (slT (cellsOf (slT a 0)) 2)),(toI (slT (rwT (elT H 0) 0) 0)),(toI (slT (rwT (elT H 0) 0) 1)),(toI (slT (rwT (elT H 0) 0) 2)),(toI (slT (rwT (elT H 0) 0) 3))⟩,())⟩ (fun x=>Ha4 x (ya0 x))
theorem ac6:g8 prog G 178 pb4:=P8 (enc:=fun x=>⟨[(.agg [(i x.da0),(i x.da1),(i x.da2)]),(.ptr 0 0 0 0)],[⟨0,4,[[(i x.c9),(i x.c7),(i x.d7),(i x.i9)]],true,false,0⟩]⟩) (fun a H=>by kernel_rfl) (bd af9 Rb9) fun x=>A4 (Eq.trans (b:=ea6 (fun r=>(Ha4 x r).run) x) (by kernel_rfl) (mc1 (fun r=>(Ha4 x r).run) (fun r=>r) x).symm)
structure W0 where
 f7:List V3
 c9:Int
 c7:Int
 d7:Int
 i9:Int
noncomputable def wa0:List (Nat×Sum):=[(178,pb4)]
theorem ab2:j7 prog G wa0:=⟨ac6,trivial⟩
structure I8 where
 f7:List V3
 is7:Int
 c9:Int
 c7:Int
 d7:Int
 i9:Int
structure o5 where
 is8:Int
noncomputable def Wa7 (p:I8) (s:o5):St:=⟨((eL tV p.f7)::((.fn 178 [(.ptr 0 0 0 0)])::(ra 5 ((i p.is7)::((i s.is8)::(ra 10 [])))))),[⟨0,4,[[(i p.c9),(i p.c7),(i p.d7),(i p.i9)]],true,false,0⟩]⟩
noncomputable def E0 {α:Type} (k:o5→α) (e:Nat→α) (z:α) (p:I8) (s:o5):α:=let t1:=(ya0 ⟨(gL tV p.f7 s.is8.toNat).x,(gL tV p.f7 s.is8.toNat).y,(gL tV p.f7 s.is8.toNat).z,p.c9,p.c7,p.d7,p.i9⟩);(sl (decide (s.is8 < p.is7)) (sl (inB s.is8 (List.length p.f7)) (sl (Nat.beq t1.alt 1) (sl t1.bs0 (e 1) (k ⟨(W (s.is8+1))⟩)) z) z) (e 2))
noncomputable def F9 (p:I8) (s:o5):Stp o5:=E0 .next .exit .fail p s
noncomputable def da7:Lo I8 o5:=⟨En wa0,1,md0,[1,0,1,4,4],[0,1,7,8],.p,[⟨((.s (.c 3 (nL tV)))::((.fn 178 [(.o (.ptr 0 0 0 0))])::(ru2 5 ((.s (.o (.int .i64)))::((.s (.o (.int .i64)))::(ru2 10 [])))))),[⟨0,4,true,(some [[(.o (.int .i64)),(.o (.int .i64)),(.o (.int .i64)),(.o (.int .i64))]])⟩],fun a H=>(⟨(rL tV (slT a 0)),(toI (slT a 7)),(toI (slT (rwT (elT H 0) 0) 0)),(toI (slT (rwT (elT H 0) 0) 1)),(toI (slT (rwT (elT H 0) 0) 2)),(toI (slT (rwT (elT H 0) 0) 3))⟩,⟨(toI (slT a 8))⟩)⟩],F9,[(none,fun p s=>⟨[(i s.is8)],[⟨0,4,[[(i p.c9),(i p.c7),(i p.d7),(i p.i9)]],true,false,0⟩]⟩),(some 0,fun p s=>⟨((eL tV p.f7)::((.fn 178 [(.ptr 0 0 0 0)])::(ra 5 ((i p.is7)::((i s.is8)::((b (decide (s.is8 < p.is7)))::(ra 9 []))))))),[⟨0,4,[[(i p.c9),(i p.c7),(i p.d7),(i p.i9)]],true,false,0⟩]⟩)],Wa7⟩
theorem Wa8:da7.Ok:=Lo.ok [] (by kernel_rfl) .nil rfl (.cons (fun a H=>by kernel_rfl) .nil) fun p s=>(.of @E0 (fun F _ _ _ _ _=>by unfold E0;(repeat' apply n7 (f:=F))<;>rfl) (by kernel_rfl))
structure W4 where
 alt:Nat
 is0:Int
noncomputable def E9 {α:Type} (kk:W4→α) (x:W0):α:=let t1:=(lp (F9 (⟨(rt tV x.f7),(↑(List.length x.f7):Int),x.c9,x.c7,x.d7,x.i9⟩:I8)) (⟨0⟩:o5));(sl ((cnE tV x.f7)&&true) (sl (Nat.beq t1.1 1) (kk ⟨1,t1.2.is8⟩) (sl (Nat.beq t1.1 2) (kk ⟨1,(-1)⟩) (kk ⟨0,0⟩))) (kk ⟨0,0⟩))
noncomputable def W5 (x:W0):W4:=E9 (fun r=>r) x
noncomputable def ha4 (x:W0) (r:W4):DT (b7×List b9):=(.ite (Nat.beq r.alt 1) (.ret ((i r.is0),[⟨0,4,[[(i x.c9),(i x.c7),(i x.d7),(i x.i9)]],true,false,0⟩])) .fail)
theorem ib5 {α β:Type} (F:α→β) (kk:W4→α) (x:W0):F (E9 kk x)=E9 (fun r=>F (kk r)) x:=by unfold E9;(repeat' apply n7 (f:=F))<;>rfl
noncomputable def Aa5:Sum:=Ua6 ⟨[(.s (.c 3 (nL tV))),(.fn 178 [(.o (.ptr 0 0 0 0))])],[⟨0,4,true,(some [[(.o (.int .i64)),(.o (.int .i64)),(.o (.int .i64)),(.o (.int .i64))]])⟩],fun a H=>(⟨(rL tV (slT a 0)),(toI (slT (rwT (elT H 0) 0) 0)),(toI (slT (rwT (elT H 0) 0) 1)),(toI (slT (rwT (elT H 0) 0) 2)),(toI (slT (rwT (elT H 0) 0) 3))⟩,())⟩ (fun x=>ha4 x (W5 x))
theorem fb1:g8 prog G 144 Aa5:=P8 (enc:=fun x=>⟨[(eL tV x.f7),(.fn 178 [(.ptr 0 0 0 0)])],[⟨0,4,[[(i x.c9),(i x.c7),(i x.d7),(i x.i9)]],true,false,0⟩]⟩) (fun a H=>by kernel_rfl) (bd qe7 ab2) fun x=>Qa3 (.s .p (.s (.s .p (.b (.u da7.ls))) .p)) [da7.pr] (by kernel_rfl) (.cons Wa8 .nil) (Eq.trans (b:=E9 (fun r=>(ha4 x r).run) x) (by kernel_rfl) (ib5 (fun r=>(ha4 x r).run) (fun r=>r) x).symm)
structure N2 where
 f7:List V3
 c9:Int
 c7:Int
 d7:Int
 i9:Int
noncomputable def Ra0:List (Nat×Sum):=[(144,Aa5)]
theorem Na5:j7 prog G Ra0:=⟨fb1,trivial⟩
structure N4 where
 alt:Nat
 bs0:Bool
noncomputable def A6 {α:Type} (kk:N4→α) (x:N2):α:=let t1:=(W5 ⟨(rt tV x.f7),x.c9,x.c7,x.d7,x.i9⟩);(sl ((cnE tV x.f7)&&true) (sl (Nat.beq t1.alt 1) (kk ⟨1,(decide (t1.is0≥0))⟩) (kk ⟨0,false⟩)) (kk ⟨0,false⟩))
noncomputable def N5 (x:N2):N4:=A6 (fun r=>r) x
noncomputable def aa0 (x:N2) (r:N4):DT (b7×List b9):=(.ite (Nat.beq r.alt 1) (.ret ((b r.bs0),[⟨0,4,[[(i x.c9),(i x.c7),(i x.d7),(i x.i9)]],true,false,0⟩])) .fail)
theorem Wa9 {α β:Type} (F:α→β) (kk:N4→α) (x:N2):F (A6 kk x)=A6 (fun r=>F (kk r)) x:=by unfold A6;(repeat' apply n7 (f:=F))<;>rfl
noncomputable def qa4:Sum:=Ua6 ⟨[(.s (.c 3 (nL tV))),(.fn 178 [(.o (.ptr 0 0 0 0))])],[⟨0,4,true,(some [[(.o (.int .i64)),(.o (.int .i64)),(.o (.int .i64)),(.o (.int .i64))]])⟩],fun a H=>(⟨(rL tV (slT a 0)),(toI (slT (rwT (elT H 0) 0) 0)),(toI (slT (rwT (elT H 0) 0) 1)),(toI (slT (rwT (elT H 0) 0) 2)),(toI (slT (rwT (elT H 0) 0) 3))⟩,())⟩ (fun x=>aa0 x (N5 x))
theorem Ra1:g8 prog G 174 qa4:=P8 (enc:=fun x=>⟨[(eL tV x.f7),(.fn 178 [(.ptr 0 0 0 0)])],[⟨0,4,[[(i x.c9),(i x.c7),(i x.d7),(i x.i9)]],true,false,0⟩]⟩) (fun a H=>by kernel_rfl) (bd Ge4 Na5) fun x=>A4 (Eq.trans (b:=A6 (fun r=>(aa0 x r).run) x) (by kernel_rfl) (Wa9 (fun r=>(aa0 x r).run) (fun r=>r) x).symm)
noncomputable def Ac5:List (Nat×Sum):=[(174,qa4)]
theorem mc2:j7 prog G Ac5:=⟨Ra1,trivial⟩
noncomputable def wa1 (x:List V3) (y:Pln):Option (b7×List b9):=let t1:=(N5 ⟨(rt tV x),y.n.x,y.n.y,y.n.z,y.b⟩);(sl ((cnE tV x)&&true) (sl (Nat.beq t1.alt 1) (some ((b t1.bs0),[])) none) none)
noncomputable def ba0 (x:List V3) (y:Pln):Bool:=Y8 (one r1B) (wa1 x y)
noncomputable def H8 (x:List V3) (y:Pln):Bool:=okO (one r1B) (wa1 x y)
noncomputable def Gb3:Sum:=pa4 (Ba0 tV) (R7 tP) (fun x y=>.guard (H8 x y) (.ret ((one r1B).enc (ba0 x y),[])))
theorem Ac6:g8 prog G 120 Gb3:=ub6 (bd Ye7 mc2) (one r1B) (o:=wa1) fun x y=>A4 (by kernel_rfl)
end Go.Ev.Ce
end
section
namespace Go.Ev.Ce
open Go Go.Ev Go.Ev.L Go.Proofs
set_option maxRecDepth 100000
noncomputable def mc3:List (Nat×Sum):=[(85,Va5)]
theorem ac7:j7 prog G mc3:=⟨cb2,trivial⟩
noncomputable def qa5 (x:V3):Option (b7×List b9):=let t1:=(ka0 x);(sl (ka1 x) (some ((b (!t1)),[])) none)
noncomputable def Da1 (x:V3):Bool:=Y8 (one r1B) (qa5 x)
noncomputable def Da2 (x:V3):Bool:=okO (one r1B) (qa5 x)
noncomputable def wb4:Sum:=Y7 (R7 tV) (fun x=>.guard (Da2 x) (.ret ((one r1B).enc (Da1 x),[])))
theorem mc4:g8 prog G 173 wb4:=Ua5 (bd af6 ac7) (one r1B) (o:=qa5) fun x=>A4 (by kernel_rfl)
structure W6 where
 f7:List V3
noncomputable def wa2:List (Nat×Sum):=[(173,wb4)]
theorem ab3:j7 prog G wa2:=⟨mc4,trivial⟩
structure I9 where
 f7:List V3
 is7:Int
structure o6 where
 is8:Int
noncomputable def Xa0 (p:I9) (s:o6):St:=⟨((eL tV p.f7)::((.fn 173 [])::(ra 5 ((i p.is7)::((i s.is8)::(ra 10 [])))))),[]⟩
noncomputable def E1 {α:Type} (k:o6→α) (e:Nat→α) (z:α) (p:I9) (s:o6):α:=let t1:=(Da1 (gL tV p.f7 s.is8.toNat));(sl (decide (s.is8 < p.is7)) (sl (inB s.is8 (List.length p.f7)) (sl (Da2 (gL tV p.f7 s.is8.toNat)) (sl t1 (e 1) (k ⟨(W (s.is8+1))⟩)) z) z) (e 2))
noncomputable def G3 (p:I9) (s:o6):Stp o6:=E1 .next .exit .fail p s
noncomputable def da8:Lo I9 o6:=⟨En wa2,0,md0,[1,0,1,4,4],[0,1,7,8],.p,[⟨((.s (.c 3 (nL tV)))::((.s (.o (.fn 173)))::(ru2 5 ((.s (.o (.int .i64)))::((.s (.o (.int .i64)))::(ru2 10 [])))))),[],fun a H=>(⟨(rL tV (slT a 0)),(toI (slT a 7))⟩,⟨(toI (slT a 8))⟩)⟩],G3,[(none,fun p s=>⟨[(i s.is8)],[]⟩),(some 0,fun p s=>⟨((eL tV p.f7)::((.fn 173 [])::(ra 5 ((i p.is7)::((i s.is8)::((b (decide (s.is8 < p.is7)))::(ra 9 []))))))),[]⟩)],Xa0⟩
theorem Xa1:da8.Ok:=Lo.ok [] (by kernel_rfl) .nil rfl (.cons (fun a H=>by kernel_rfl) .nil) fun p s=>(.of @E1 (fun F _ _ _ _ _=>by unfold E1;(repeat' apply n7 (f:=F))<;>rfl) (by kernel_rfl))
structure W7 where
 alt:Nat
 is0:Int
noncomputable def F4 {α:Type} (kk:W7→α) (x:W6):α:=let t1:=(lp (G3 (⟨(rt tV x.f7),(↑(List.length x.f7):Int)⟩:I9)) (⟨0⟩:o6));(sl ((cnE tV x.f7)&&true) (sl (Nat.beq t1.1 1) (kk ⟨1,t1.2.is8⟩) (sl (Nat.beq t1.1 2) (kk ⟨1,(-1)⟩) (kk ⟨0,0⟩))) (kk ⟨0,0⟩))
noncomputable def W8 (x:W6):W7:=F4 (fun r=>r) x
noncomputable def ha5 (x:W6) (r:W7):DT (b7×List b9):=(.ite (Nat.beq r.alt 1) (.ret ((i r.is0),[])) .fail)
theorem ib6 {α β:Type} (F:α→β) (kk:W7→α) (x:W6):F (F4 kk x)=F4 (fun r=>F (kk r)) x:=by unfold F4;(repeat' apply n7 (f:=F))<;>rfl
noncomputable def Aa6:Sum:=Ua6 ⟨[(.s (.c 3 (nL tV))),(.s (.o (.fn 173)))],[],fun a H=>(⟨(rL tV (slT a 0))⟩,())⟩ (fun x=>ha5 x (W8 x))
theorem fb2:g8 prog G 144 Aa6:=P8 (enc:=fun x=>⟨[(eL tV x.f7),(.fn 173 [])],[]⟩) (fun a H=>by kernel_rfl) (bd qe7 ab3) fun x=>Qa3 (.s .p (.s (.s .p (.b (.u da8.ls))) .p)) [da8.pr] (by kernel_rfl) (.cons Xa1 .nil) (Eq.trans (b:=F4 (fun r=>(ha5 x r).run) x) (by kernel_rfl) (ib6 (fun r=>(ha5 x r).run) (fun r=>r) x).symm)
structure N6 where
 f7:List V3
noncomputable def Ra2:List (Nat×Sum):=[(144,Aa6)]
theorem Na6:j7 prog G Ra2:=⟨fb2,trivial⟩
structure N7 where
 alt:Nat
 bs0:Bool
noncomputable def A7 {α:Type} (kk:N7→α) (x:N6):α:=let t1:=(W8 ⟨(rt tV x.f7)⟩);(sl ((cnE tV x.f7)&&true) (sl (Nat.beq t1.alt 1) (kk ⟨1,(decide (t1.is0≥0))⟩) (kk ⟨0,false⟩)) (kk ⟨0,false⟩))
noncomputable def N8 (x:N6):N7:=A7 (fun r=>r) x
noncomputable def aa1 (x:N6) (r:N7):DT (b7×List b9):=(.ite (Nat.beq r.alt 1) (.ret ((b r.bs0),[])) .fail)
theorem Xa2 {α β:Type} (F:α→β) (kk:N7→α) (x:N6):F (A7 kk x)=A7 (fun r=>F (kk r)) x:=by unfold A7;(repeat' apply n7 (f:=F))<;>rfl
noncomputable def qa6:Sum:=Ua6 ⟨[(.s (.c 3 (nL tV))),(.s (.o (.fn 173)))],[],fun a H=>(⟨(rL tV (slT a 0))⟩,())⟩ (fun x=>aa1 x (N8 x))
theorem Ra3:g8 prog G 174 qa6:=P8 (enc:=fun x=>⟨[(eL tV x.f7),(.fn 173 [])],[]⟩) (fun a H=>by kernel_rfl) (bd Ge4 Na6) fun x=>A4 (Eq.trans (b:=A7 (fun r=>(aa1 x r).run) x) (by kernel_rfl) (Xa2 (fun r=>(aa1 x r).run) (fun r=>r) x).symm)
noncomputable def Lc7:List (Nat×Sum):=[(174,qa6),(175,ic4)]
theorem Ac7:j7 prog G Lc7:=⟨Ra3,ad6,trivial⟩
noncomputable def Da3 (x:List V3):Option (b7×List b9):=let t1:=(N8 ⟨(rt tV x)⟩);let t2:=(cb3 (rt tV x));(sl (decide ((↑(List.length x):Int) > 48)) (some ((i 2),[])) (sl ((cnE tV x)&&true) (sl (Nat.beq t1.alt 1) (sl t1.bs0 (some ((i 3),[])) (sl (okE tV x) (sl (cb4 (rt tV x)) (sl t2 (some ((i 11),[])) (some ((i 0),[]))) none) none)) none) none))
noncomputable def Da4 (x:List V3):Int:=Y8 (one r1I) (Da3 x)
noncomputable def Da5 (x:List V3):Bool:=okO (one r1I) (Da3 x)
noncomputable def nb7:Sum:=Y7 (Ba0 tV) (fun x=>.guard (Da5 x) (.ret ((one r1I).enc (Da4 x),[])))
theorem Gb4:g8 prog G 118 nb7:=Ua5 (bd Ye5 Ac7) (one r1I) (o:=Da3) fun x=>A4 (by kernel_rfl)
end Go.Ev.Ce
end
section
namespace Go.Ev.Ce
open Go Go.Ev Go.Ev.L Go.Proofs
set_option maxRecDepth 100000
noncomputable def ac8:List (Nat×Sum):=[]
theorem Sb0:j7 prog G ac8:=trivial
noncomputable def ya1 (x:Int):Bool:=(x != x)
noncomputable def pb5:Sum:=Y7 cI (fun x=>.ret ((one r1B).enc (ya1 x),[]))
theorem ac9:g8 prog G 220 pb5:=Bb6 (bd bf8 Sb0) fun x=>A4 (by kernel_rfl)
noncomputable def Lb4:List (Nat×Sum):=[(220,pb5)]
theorem Db8:j7 prog G Lb4:=⟨ac9,trivial⟩
noncomputable def fa5 (x:Int) (y:Int):Option (b7×List b9):=let t1:=(ya1 x);let t2:=(ya1 y);(sl t1 (sl t2 (some ((i 0),[])) (some ((i (-1)),[]))) (sl t2 (some ((i 1),[])) (sl (decide (x < y)) (some ((i (-1)),[])) (sl (decide (x > y)) (some ((i 1),[])) (some ((i 0),[]))))))
noncomputable def W9 (x:Int) (y:Int):Int:=Y8 (one r1I) (fa5 x y)
noncomputable def X0 (x:Int) (y:Int):Bool:=okO (one r1I) (fa5 x y)
noncomputable def cb5:Sum:=pa4 cI cI (fun x y=>.guard (X0 x y) (.ret ((one r1I).enc (W9 x y),[])))
theorem Lb5:g8 prog G 189 cb5:=ub6 (bd bf4 Db8) (one r1I) (o:=fa5) fun x y=>A4 (by kernel_rfl)
noncomputable def Gb5:List (Nat×Sum):=[]
theorem Ac8:j7 prog G Gb5:=trivial
structure qa7 where
 Fa5:List Int
 is7:Int
structure K5 where
 is8:Int
noncomputable def mc5 (p:qa7) (s:K5):St:=⟨(ra 3 ((i 0)::(.unk::(.unk::((eL tI p.Fa5)::((i p.is7)::((i s.is8)::(ra 9 [])))))))),[]⟩
noncomputable def Ha5 {α:Type} (k:K5→α) (e:Nat→α) (z:α) (p:qa7) (s:K5):α:=(sl (decide (s.is8 < p.is7)) (sl (inB s.is8 (List.length p.Fa5)) (sl ((gL tI p.Fa5 s.is8.toNat) != 0) (e 1) (k ⟨(W (s.is8+1))⟩)) z) (e 2))
noncomputable def Y3 (p:qa7) (s:K5):Stp K5:=Ha5 .next .exit .fail p s
noncomputable def Xa3:Lo qa7 K5:=⟨En Gb5,0,Ae4,[1,1,0,1,4,4],[3,6,7,8],.p,[⟨(ru2 3 ((.s (.o (.lit .i64 0)))::((.s (.o .unk))::((.s (.o .unk))::((.s (.c 1 (nL tI)))::((.s (.o (.int .i64)))::((.s (.o (.int .i64)))::(ru2 9 [])))))))),[],fun a H=>(⟨(rL tI (slT a 6)),(toI (slT a 7))⟩,⟨(toI (slT a 8))⟩)⟩],Y3,[(none,fun p s=>⟨[(i (gL tI p.Fa5 s.is8.toNat))],[]⟩),(some 0,fun p s=>⟨(ra 3 ((i 0)::(.unk::(.unk::((eL tI p.Fa5)::((i p.is7)::((i s.is8)::((b (decide (s.is8 < p.is7)))::(ra 8 []))))))))),[]⟩)],mc5⟩
theorem mc6:Xa3.Ok:=Lo.ok [] (by kernel_rfl) .nil rfl (.cons (fun a H=>by kernel_rfl) .nil) fun p s=>(.of @Ha5 (fun F _ _ _ _ _=>by unfold Ha5;(repeat' apply n7 (f:=F))<;>rfl) (by kernel_rfl))
noncomputable def Da6 (x:List Int):Option (b7×List b9):=let t1:=(lp (Y3 (⟨(rt tI x),(↑(List.length x):Int)⟩:qa7)) (⟨0⟩:K5));(sl ((cnE tI x)&&true) (sl (Nat.beq t1.1 1) (some ((i (gL tI (rt tI x) t1.2.is8.toNat)),[])) (sl (Nat.beq t1.1 2) (some ((i 0),[])) none)) none)
noncomputable def Ra4 (x:List Int):Int:=Y8 (one r1I) (Da6 x)
noncomputable def Ra5 (x:List Int):Bool:=okO (one r1I) (Da6 x)
noncomputable def Sb1:Sum:=Y7 (Ba0 tI) (fun x=>.guard (Ra5 x) (.ret ((one r1I).enc (Ra4 x),[])))
theorem Lc8:g8 prog G 188 Sb1:=Ua5 (bd bf3 Ac8) (one r1I) (o:=Da6) fun x=>Qa3 (.s .p (.s .p (.s (.s .p (.b (.u Xa3.ls))) .p))) [Xa3.pr] (by kernel_rfl) (.cons mc6 .nil) (by kernel_rfl)
noncomputable def mc7:List (Nat×Sum):=[(189,cb5),(188,Sb1)]
theorem bc0:j7 prog G mc7:=⟨Lb5,Lc8,trivial⟩
noncomputable def qa8 (x:V3) (y:V3):Option (b7×List b9):=let t1:=(W9 x.x y.x);let t2:=(W9 x.y y.y);let t3:=(W9 x.z y.z);let t4:=(Ra4 [t1,t2,t3]);(sl (X0 x.x y.x) (sl (X0 x.y y.y) (sl (X0 x.z y.z) (sl (Ra5 [t1,t2,t3]) (some ((i t4),[])) none) none) none) none)
noncomputable def Da7 (x:V3) (y:V3):Int:=Y8 (one r1I) (qa8 x y)
noncomputable def Da8 (x:V3) (y:V3):Bool:=okO (one r1I) (qa8 x y)
noncomputable def Xa4:Sum:=pa4 (R7 tV) (R7 tV) (fun x y=>.guard (Da8 x y) (.ret ((one r1I).enc (Da7 x y),[])))
theorem mc8:g8 prog G 147 Xa4:=ub6 (bd af0 bc0) (one r1I) (o:=qa8) fun x y=>A4 (by kernel_rfl)
end Go.Ev.Ce
end
namespace Go.Ev.L
open Go Go.Ev
theorem re6 (n:Int):W n=(n+9223372036854775808) % 18446744073709551616 - 9223372036854775808:=IntKind.wrap_i64 n
theorem U5 {n:Int} (h1:-9223372036854775808≤n) (h2:n≤9223372036854775807):W n=n:=by rw[re6];omega
theorem Zd6 (n:Int):∃ k,W n=n+18446744073709551616*k:=⟨-((n+9223372036854775808) / 18446744073709551616),by rw[re6];omega⟩
theorem bc1 (n k:Int):W (n+18446744073709551616*k)=W n:=by rw[re6,re6];omega
theorem bc2 (a b:Int):W (W a+b)=W (a+b):=by
 obtain⟨k,hk⟩:=Zd6 a
 rw[hk,show a+18446744073709551616*k+b=a+b+18446744073709551616*k by omega,bc1]
theorem Ac9 (a b:Int):W (a+W b)=W (a+b):=by rw[Int.add_comm,bc2,Int.add_comm]
theorem zd1 (a b:Int):W (W a - b)=W (a - b):=by
 obtain⟨k,hk⟩:=Zd6 a
 rw[hk,show a+18446744073709551616*k - b=a - b+18446744073709551616*k by omega,bc1]
theorem Zd7 (a b:Int):W (a - W b)=W (a - b):=by
 obtain⟨k,hk⟩:=Zd6 b
 rw[hk,show a - (b+18446744073709551616*k)=a - b+18446744073709551616*(-k) by omega,bc1]
theorem w8 {j n:Nat} (h:j < n) (hn:n≤4611686018427387904):W ((j:Int)+1)=((j+1:Nat):Int):=by
 rw[U5 (by omega) (by omega)];omega
theorem Bc0 {j n:Nat} (h:j < n):decide ((j:Int) < (n:Int))=true:=decide_eq_true (by omega)
theorem Sb2 {j n:Nat} (h:¬ j < n):decide ((j:Int) < (n:Int))=false:=decide_eq_false (by omega)
theorem i4 {j n:Nat} (h:j < n):inB (j:Int) n=true:=by
 show Nat.blt j n=true
 rw[Nat.blt_eq];exact h
theorem re7 (m:Int) (n:Nat):inB m n=decide (0≤m∧m < n):=by
 unfold inB
 cases m with
 | ofNat k =>
  rw[Bool.eq_iff_iff,decide_eq_true_eq]
  show Nat.blt k n=true↔_
  rw[Nat.blt_eq]
  constructor
  ·intro h;exact⟨Int.natCast_nonneg k,Int.ofNat_lt.2 h⟩
  ·intro h;exact Int.ofNat_lt.1 h.2
 | negSucc k=>exact (decide_eq_false (fun h=>by omega)).symm
theorem bt {c:Bool} (h:c=true) {α:Type} (t e:α):sl c t e=t:=by rw[h];rfl
theorem bf {c:Bool} (h:c=false) {α:Type} (t e:α):sl c t e=e:=by rw[h];rfl
theorem re8 {n:Nat} (h:n≤1000000000000):Nat.ble (n*32) room=true:=by
 rw[Nat.ble_eq];unfold room;omega
theorem Zd8 {σ : Type} {step : σ → Stp σ} {I : Nat → σ → Prop} {Q : Nat → σ → Prop} (h : ∀ m s, I m s → (∃ t, step s = .exit t ∧ Q t s) ∨ ∃ s' m', m = m' + 1 ∧ step s = .next s' ∧ I m' s') :
  ∀ (m n:Nat) (s:σ),m≤n→I m s→Q (lp0 step n s).1 (lp0 step n s).2
 | m,n,s,hn,hi=>by
  rcases h m s hi with⟨t,h1,h2⟩ | ⟨s',m',rfl,h1,h2⟩
  ·rw[wc3 h1]
   exact h2
  ·cases n with
   | zero=>omega
   | succ n =>
    rw[jd0 h1]
    exact Zd8 h m' n s' (by omega) h2
theorem bc3 {σ : Type} {step : σ → Stp σ} {I : Nat → σ → Prop} {Q : Nat → σ → Prop} (h : ∀ m s, I m s → (∃ t, step s = .exit t ∧ Q t s) ∨ ∃ s' m', m = m' + 1 ∧ step s = .next s' ∧ I m' s')
  (m:Nat) (s:σ) (hm:m≤18446744073709551615) (hi:I m s):Q (lp step s).1 (lp step s).2:=by
 rw[Ud8]
 exact Zd8 h m rounds s (by unfold rounds;omega) hi
section
variable {σ τ α:Type} {step:σ→Stp σ}
theorem re9 {mk : Nat → τ → σ} {f : τ → α → τ} {fin : Nat} (t : Ty α) (l : List α) (I : Nat → τ → Prop) (hl : l.length ≤ 1000000000)
  (h:∀ j a,j < l.length→I j a→step (mk j a)=.next (mk (j+1) (f a (gL t l j)))∧I (j+1) (f a (gL t l j)))
  (hf:∀ a,I l.length a→step (mk l.length a)=.exit fin) (j0:Nat) (hj:j0≤l.length) (a:τ) (hi:I j0 a) :
  lp step (mk j0 a)=(fin,mk l.length ((l.drop j0).foldl f a))∧I l.length ((l.drop j0).foldl f a):=by
 have key:=bc3 (step:=step) (I:=fun m s=>∃ j b,m=l.length - j∧j≤l.length∧s=mk j b∧I j b∧(l.drop j).foldl f b=(l.drop j0).foldl f a)
  (Q:=fun u s=>u=fin∧s=mk l.length ((l.drop j0).foldl f a)∧I l.length ((l.drop j0).foldl f a)) (fun m s ⟨j,b,hm,hj,hs,hb,he⟩=>by
   subst hs
   by_cases hlt:j < l.length
   ·obtain⟨h1,h2⟩:=h j b hlt hb
    refine .inr ⟨_,l.length - (j+1),by omega,h1,j+1,_,rfl,by omega,rfl,h2,?_⟩
    rw[← he,List.drop_eq_getElem_cons hlt,List.foldl_cons]
    simp[gL,List.getD_eq_getElem?_getD,List.getElem?_eq_getElem hlt]
   ·have:j=l.length:=by omega
    subst this
    have he:b=(l.drop j0).foldl f a:=by rw[← he];simp
    subst he
    exact .inl ⟨fin,hf _ hb,rfl,rfl,hb⟩) (l.length - j0) (mk j0 a) (by omega) ⟨j0,a,rfl,hj,rfl,hi,rfl⟩
 exact⟨by rw[← key.2.1,← key.1],key.2.2⟩
theorem Lb6 {mk : Nat → σ} {c : α → Bool} {u fin : Nat} (t : Ty α) (l : List α) (hl : l.length ≤ 1000000000)
  (h:∀ j,j < l.length→step (mk j)=sl (c (gL t l j)) (.exit u) (.next (mk (j+1)))) (hf:step (mk l.length)=.exit fin) (j0:Nat) (hj:j0≤l.length) :
  (lp step (mk j0)).1=if (l.drop j0).any c then u else fin :=
 bc3 (step:=step) (I:=fun m s=>∃ j,m=l.length - j∧j≤l.length∧s=mk j∧(l.drop j).any c=(l.drop j0).any c)
  (Q:=fun v _=>v=if (l.drop j0).any c then u else fin) (fun m s ⟨j,hm,hj,hs,he⟩=>by
   subst hs
   by_cases hlt:j < l.length
   ·have h1:=h j hlt
    have e:gL t l j=l[j]:=by simp[gL,List.getD_eq_getElem?_getD,List.getElem?_eq_getElem hlt]
    have e2:(l.drop j).any c=(c l[j]||(l.drop (j+1)).any c):=by rw[List.drop_eq_getElem_cons hlt,List.any_cons]
    rw[e] at h1
    cases hc:c l[j] with
    | true =>
     rw[hc] at h1
     refine .inl ⟨u,h1,?_⟩
     rw[← he,e2,hc];rfl
    | false =>
     rw[hc] at h1
     refine .inr ⟨_,l.length - (j+1),by omega,h1,j+1,rfl,by omega,rfl,?_⟩
     rw[← he,e2,hc];rfl
   ·have:j=l.length:=by omega
    subst this
    refine .inl ⟨fin,hf,?_⟩
    rw[← he];simp) (l.length - j0) (mk j0) (by omega) ⟨j0,rfl,hj,rfl,rfl⟩
theorem Ra6 {mk : Nat → σ} {c : α → Bool} {u fin : Nat} (t : Ty α) (l : List α) (hl : l.length ≤ 1000000000)
  (h:∀ j,j < l.length→step (mk j)=sl (c (gL t l j)) (.exit u) (.next (mk (j+1)))) (hf:step (mk l.length)=.exit fin) (j0:Nat) (hj:j0≤l.length) :
  lp step (mk j0)=if (l.drop j0).any c then (u,mk (j0+(l.drop j0).findIdx c)) else (fin,mk l.length):=by
 have key:=bc3 (step:=step) (I:=fun m s=>∃ j,m=l.length - j∧j≤l.length∧j0≤j∧s=mk j∧(l.drop j).any c=(l.drop j0).any c∧j+(l.drop j).findIdx c=j0+(l.drop j0).findIdx c)
  (Q:=fun v s=>(v,s)=if (l.drop j0).any c then (u,mk (j0+(l.drop j0).findIdx c)) else (fin,mk l.length)) (fun m s ⟨j,hm,hj,hj0,hs,he,hi⟩=>by
   subst hs
   by_cases hlt:j < l.length
   ·have h1:=h j hlt
    have e:gL t l j=l[j]:=by simp[gL,List.getD_eq_getElem?_getD,List.getElem?_eq_getElem hlt]
    have e2:(l.drop j).any c=(c l[j]||(l.drop (j+1)).any c):=by rw[List.drop_eq_getElem_cons hlt,List.any_cons]
    have e3:(l.drop j).findIdx c=if c l[j] then 0 else (l.drop (j+1)).findIdx c+1:=by rw[List.drop_eq_getElem_cons hlt,List.findIdx_cons];cases c l[j]<;>rfl
    rw[e] at h1
    cases hc:c l[j] with
    | true =>
     rw[hc] at h1
     refine .inl ⟨u,h1,?_⟩
     rw[← he,e2,hc,← hi,e3,hc];rfl
    | false =>
     rw[hc] at h1
     refine .inr ⟨_,l.length - (j+1),by omega,h1,j+1,rfl,by omega,by omega,rfl,?_,?_⟩
     ·rw[← he,e2,hc];rfl
     ·rw[← hi,e3,hc];simp only[Bool.false_eq_true,if_false];omega
   ·have:j=l.length:=by omega
    subst this
    refine .inl ⟨fin,hf,?_⟩
    rw[← he];simp) (l.length - j0) (mk j0) (by omega) ⟨j0,rfl,hj,Nat.le_refl _,rfl,rfl,rfl⟩
 exact key
end
theorem fb3 {α:Type} (t:Ty α) {l:List α} {j:Nat} (h:j < l.length):gL t l j∈l:=by
 simp[gL,List.getD_eq_getElem?_getD,List.getElem?_eq_getElem h]
theorem pb6 {α:Type} (t:Ty α) {l:List α} {j:Nat} (h:j < l.length):gL t l j=l[j]:=by
 simp[gL,List.getD_eq_getElem?_getD,List.getElem?_eq_getElem h]
end Go.Ev.L
namespace Go.Ev.L
open Go Go.Ev
def euF:Nat→Int→Int→Int
 | 0,g,_=>g
 | k+1,g,n=>if n=0 then g else euF k n (Int.tmod g n)
def eu (g n:Int):Int:=euF (n.natAbs+1) g n
theorem Ta0 {g n:Int} (h:n≠0):(Int.tmod g n).natAbs < n.natAbs:=by
 rw[Int.natAbs_tmod]
 exact Nat.mod_lt _ (by omega)
theorem nd5:∀ (k m:Nat) {g n:Int},n.natAbs < k→n.natAbs < m→euF k g n=euF m g n
 | 0,_,_,_,h,_=>by omega
 | _+1,0,_,_,_,h=>by omega
 | k+1,m+1,g,n,h1,h2=>by
  unfold euF
  by_cases h:n=0
  ·rw[if_pos h,if_pos h]
  ·rw[if_neg h,if_neg h]
   have:=Ta0 (g:=g) h
   exact nd5 k m (by omega) (by omega)
theorem Sb3 (g:Int):eu g 0=g:=by simp[eu,euF]
theorem ad7 {g n:Int} (h:n≠0):eu g n=eu n (Int.tmod g n):=by
 have:=Ta0 (g:=g) h
 unfold eu
 conv=>lhs;unfold euF
 rw[if_neg h]
 exact nd5 _ _ (by omega) (by omega)
theorem Ge8:∀ (k:Nat) (g n:Int),n.natAbs≤k→(eu g n).natAbs=Int.gcd g n:=by
 intro k
 induction k with
 | zero =>
  intro g n h
  have:n=0:=by omega
  subst this
  rw[Sb3];simp
 | succ k ih =>
  intro g n h
  by_cases h0:n=0
  ·subst h0;rw[Sb3];simp
  ·have:=Ta0 (g:=g) h0
   rw[ad7 h0,ih n (Int.tmod g n) (by omega)]
   unfold Int.gcd
   rw[Int.natAbs_tmod,Nat.gcd_comm g.natAbs,Nat.gcd_comm n.natAbs,← Nat.gcd_rec]
theorem Ge9 (g n:Int):(eu g n).natAbs=Int.gcd g n:=Ge8 _ g n (Nat.le_refl _)
theorem Nd0:∀ (k:Nat) (g n:Int),n.natAbs≤k→0≤g→0≤n→0≤eu g n:=by
 intro k
 induction k with
 | zero =>
  intro g n h hg _
  have:n=0:=by omega
  subst this
  rw[Sb3];exact hg
 | succ k ih =>
  intro g n h hg hn
  by_cases h0:n=0
  ·subst h0;rw[Sb3];exact hg
  ·have:=Ta0 (g:=g) h0
   rw[ad7 h0]
   exact ih n _ (by omega) hn (Int.tmod_nonneg _ hg)
theorem He0 {g n:Int} (hg:0≤g) (hn:0≤n):eu g n=(Int.gcd g n:Int):=by
 have h1:=Nd0 _ g n (Nat.le_refl _) hg hn
 have h2:=Ge9 g n
 omega
section
variable {σ:Type} {step:σ→Stp σ} {mk:Int→Int→σ}
theorem ic5 (h:∀ g n,0 < n→step (mk g n)=.next (mk n (Int.tmod g n))) (h0:∀ g,step (mk g 0)=.exit 1) (g n:Int) (hg:0≤g) (h1:0≤n) (hn:n≤9223372036854775808):lp step (mk g n)=(1,mk (eu g n) 0):=by
 have:=bc3 (step:=step) (I:=fun m s=>∃ a c,s=mk a c∧c.natAbs≤m∧0≤a∧0≤c∧eu a c=eu g n) (Q:=fun u s=>(u,s)=(1,mk (eu g n) 0)) (fun m s ⟨a,c,hs,hm,ha,hc0,he⟩=>by
  subst hs
  by_cases hc:c=0
  ·subst hc
   rw[Sb3] at he
   subst he
   exact .inl ⟨1,h0 _,rfl⟩
  ·have ht:=Ta0 (g:=a) hc
   exact .inr ⟨_,m - 1,by omega,h a c (by omega),c,_,rfl,by omega,hc0,Int.tmod_nonneg _ ha,by rw[← he,ad7 hc]⟩) n.natAbs (mk g n) (by omega) ⟨g,n,rfl,Nat.le_refl _,hg,h1,rfl⟩
 exact this
end
theorem mb {a c A C:Int} (h1:-A≤a) (h2:a≤A) (h3:-C≤c) (h4:c≤C):-(A*C)≤a*c∧a*c≤A*C:=by
 have hA:a.natAbs≤A.natAbs:=by omega
 have hC:c.natAbs≤C.natAbs:=by omega
 have h5:=Nat.mul_le_mul hA hC
 rw[← Int.natAbs_mul,← Int.natAbs_mul] at h5
 have h6:0≤A*C:=Int.mul_nonneg (by omega) (by omega)
 omega
end Go.Ev.L
namespace Go.Proofs
open Go.Shelf
set_option maxRecDepth 100000 in
def Ce.sortLayV_ren:Go.Shelf.Ren:=⟨fun | 6=>146 | 15=>180 | 14=>187 | 28=>207 | 29=>208 | 20=>212 | 21=>213 | 22=>214 | 23=>215 | 24=>216 | 25=>217 | 26=>218 | 27=>219 | 46=>230 | 47=>224 | 48=>225 | 49=>231 | 50=>232 | 57=>234 | n=>n,fun | 22=>33 | 24=>27 | 25=>112 | 3=>3 | 39=>173 | 0=>0 | 53=>197 | 55=>199 | 4=>4 | 46=>191 | 45=>190 | 50=>50 | 5=>5 | 9=>9 | 66=>210 | 70=>214 | 76=>218 | 77=>219 | n=>n,fun | n=>n⟩
set_option maxRecDepth 100000 in
theorem Ce.sortLayV:Go.Proofs.SlLaysF0.n6 Tryz.prog Ce.sortLayV_ren:={
 mixed:=by kernel_rfl
 f6:=⟨Tryz.f146.name,by decide,Tryz.func146.trans (congrArg some (by kernel_rfl))⟩
 f14:=⟨Tryz.f187.name,by decide,Tryz.func187.trans (congrArg some (by kernel_rfl))⟩
 f15:=Tryz.func180.trans (congrArg some (by kernel_rfl))
 f20:=⟨Tryz.f212.name,by decide,Tryz.func212.trans (congrArg some (by kernel_rfl))⟩
 f21:=⟨Tryz.f213.name,by decide,Tryz.func213.trans (congrArg some (by kernel_rfl))⟩
 f22:=⟨Tryz.f214.name,by decide,Tryz.func214.trans (congrArg some (by kernel_rfl))⟩
 f23:=⟨Tryz.f215.name,by decide,Tryz.func215.trans (congrArg some (by kernel_rfl))⟩
 f24:=⟨Tryz.f216.name,by decide,Tryz.func216.trans (congrArg some (by kernel_rfl))⟩
 f25:=⟨Tryz.f217.name,by decide,Tryz.func217.trans (congrArg some (by kernel_rfl))⟩
 f26:=⟨Tryz.f218.name,by decide,Tryz.func218.trans (congrArg some (by kernel_rfl))⟩
 f27:=⟨Tryz.f219.name,by decide,Tryz.func219.trans (congrArg some (by kernel_rfl))⟩
 f28:=Tryz.func207.trans (congrArg some (by kernel_rfl))
 f29:=Tryz.func208.trans (congrArg some (by kernel_rfl))
 f46:=⟨Tryz.f230.name,by decide,Tryz.func230.trans (congrArg some (by kernel_rfl))⟩
 f47:=Tryz.func224.trans (congrArg some (by kernel_rfl))
 f48:=Tryz.func225.trans (congrArg some (by kernel_rfl))
 f49:=⟨Tryz.f231.name,by decide,Tryz.func231.trans (congrArg some (by kernel_rfl))⟩
 f50:=⟨Tryz.f232.name,by decide,Tryz.func232.trans (congrArg some (by kernel_rfl))⟩
 f57:=⟨Tryz.f234.name,by decide,Tryz.func234.trans (congrArg some (by kernel_rfl))⟩
 t0:=Tryz.underlying0
 a0:=Tryz.isAgg0
 z0:=Tryz.sizeOf0
 v0:=Tryz.zeroValue0
 t3:=Tryz.underlying3
 a3:=Tryz.isAgg3
 z3:=Tryz.sizeOf3
 v3:=Tryz.zeroValue3
 t4:=Tryz.underlying4
 a4:=Tryz.isAgg4
 z4:=Tryz.sizeOf4
 v4:=Tryz.zeroValue4
 t5:=Tryz.underlying5
 a5:=Tryz.isAgg5
 z5:=Tryz.sizeOf5
 v5:=Tryz.zeroValue5
 t9:=Tryz.underlying9
 a9:=Tryz.isAgg9
 z9:=Tryz.sizeOf9
 v9:=Tryz.zeroValue9
 t22:=Tryz.underlying33
 a22:=Tryz.isAgg33
 z22:=Tryz.sizeOf33
 v22:=Tryz.zeroValue33
 t25:=Tryz.underlying112
 a25:=Tryz.isAgg112
 z25:=Tryz.sizeOf112
 v25:=Tryz.zeroValue112
 t39:=Tryz.underlying173
 a39:=Tryz.isAgg173
 z39:=Tryz.sizeOf173
 v39:=Tryz.zeroValue173
 t45:=Tryz.underlying190
 a45:=Tryz.isAgg190
 z45:=Tryz.sizeOf190
 v45:=Tryz.zeroValue190
 t46:=Tryz.underlying191
 a46:=Tryz.isAgg191
 z46:=Tryz.sizeOf191
 v46:=Tryz.zeroValue191
 t50:=Tryz.underlying50
 a50:=Tryz.isAgg50
 z50:=Tryz.sizeOf50
 v50:=Tryz.zeroValue50
 t53:=Tryz.underlying197
 a53:=Tryz.isAgg197
 z53:=Tryz.sizeOf197
 v53:=Tryz.zeroValue197
 t55:=Tryz.underlying199
 a55:=Tryz.isAgg199
 z55:=Tryz.sizeOf199
 v55:=Tryz.zeroValue199
 t66:=Tryz.underlying210
 a66:=Tryz.isAgg210
 z66:=Tryz.sizeOf210
 v66:=Tryz.zeroValue210
 t70:=Tryz.underlying214
 a70:=Tryz.isAgg214
 z70:=Tryz.sizeOf214
 v70:=Tryz.zeroValue214
 t76:=Tryz.underlying218
 a76:=Tryz.isAgg218
 z76:=Tryz.sizeOf218
 v76:=Tryz.zeroValue218
 t77:=Tryz.underlying219
 a77:=Tryz.isAgg219
 z77:=Tryz.sizeOf219
 v77:=Tryz.zeroValue219 }
end Go.Proofs
namespace Go.Ev.Ce
open Go Go.Ev Go.Ev.L Go.Proofs Go.Sort
theorem Fd3 (x y:Int):fa5 x y=some (i (eb4 x y),[]):=by
 unfold fa5 ya1 eb4
 simp only[bne_self_eq_false,Kb1,decide_eq_true_eq,Bool.false_eq_true,if_false]
 split<;>(try split)<;>rfl
theorem He1 (x y:Int):W9 x y=eb4 x y:=by unfold W9;rw[Fd3];rfl
theorem He2 (x y:Int):X0 x y=true:=by unfold X0;rw[Fd3];rfl
def orI (a c d:Int):Int:=if a=0 then if c=0 then d else c else a
theorem se0 (a c d:Int):((lp (Y3 ⟨[a,c,d],3⟩) ⟨0⟩).1=1∧gL tI [a,c,d] (lp (Y3 ⟨[a,c,d],3⟩) ⟨0⟩).2.is8.toNat=orI a c d)∨((lp (Y3 ⟨[a,c,d],3⟩) ⟨0⟩).1=2∧orI a c d=0):=by
 have g0:gL tI [a,c,d] 0=a:=rfl
 have g1:gL tI [a,c,d] 1=c:=rfl
 have g2:gL tI [a,c,d] 2=d:=rfl
 refine bc3 (step:=Y3 ⟨[a,c,d],3⟩) (I:=fun m s=>(m=3∧s=⟨0⟩)∨(m=2∧s=⟨1⟩∧a=0)∨(m=1∧s=⟨2⟩∧a=0∧c=0)∨(m=0∧s=⟨3⟩∧a=0∧c=0∧d=0))
  (Q:=fun t s=>(t=1∧gL tI [a,c,d] s.is8.toNat=orI a c d)∨(t=2∧orI a c d=0)) (fun m s hi=>?_) 3 ⟨0⟩ (by omega) (.inl ⟨rfl,rfl⟩)
 rcases hi with⟨rfl,rfl⟩ | ⟨rfl,rfl,ha⟩ | ⟨rfl,rfl,ha,hc⟩ | ⟨rfl,rfl,ha,hc,hd⟩
 ·by_cases h:a=0
  ·exact .inr ⟨⟨1⟩,2,rfl,by subst h;rfl,.inr (.inl ⟨rfl,rfl,h⟩)⟩
  ·refine .inl ⟨1,?_,.inl ⟨rfl,by unfold orI;rw[if_neg h];rfl⟩⟩
   show sl (a != 0) (Stp.exit 1) (Stp.next (⟨W (0+1)⟩:K5))=_
   rw[bt (by simpa using h)]
 ·by_cases h:c=0
  ·exact .inr ⟨⟨2⟩,1,rfl,by subst h;rfl,.inr (.inr (.inl ⟨rfl,rfl,ha,h⟩))⟩
  ·refine .inl ⟨1,?_,.inl ⟨rfl,by unfold orI;rw[if_pos ha,if_neg h];rfl⟩⟩
   show sl (c != 0) (Stp.exit 1) (Stp.next (⟨W (1+1)⟩:K5))=_
   rw[bt (by simpa using h)]
 ·by_cases h:d=0
  ·exact .inr ⟨⟨3⟩,0,rfl,by subst h;rfl,.inr (.inr (.inr ⟨rfl,rfl,ha,hc,h⟩))⟩
  ·refine .inl ⟨1,?_,.inl ⟨rfl,by unfold orI;rw[if_pos ha,if_pos hc];rfl⟩⟩
   show sl (d != 0) (Stp.exit 1) (Stp.next (⟨W (2+1)⟩:K5))=_
   rw[bt (by simpa using h)]
 ·exact .inl ⟨2,rfl,.inr ⟨rfl,by unfold orI;rw[if_pos ha,if_pos hc];exact hd⟩⟩
theorem Be2 (a c d:Int):Da6 [a,c,d]=some (i (orI a c d),[]):=by
 have h:=se0 a c d
 unfold Da6
 simp only[p5,j9]
 rw[show ((([a,c,d]:List Int).length:Nat):Int)=3 from rfl]
 generalize lp (Y3 ⟨[a,c,d],3⟩) ⟨0⟩=r at *
 rcases h with⟨h1,h2⟩ | ⟨h1,h2⟩
 ·rw[h1,h2];rfl
 ·rw[h1,h2];rfl
theorem cf1 (a c d:Int):Ra4 [a,c,d]=orI a c d:=by unfold Ra4;rw[Be2];rfl
theorem cf2 (a c d:Int):Ra5 [a,c,d]=true:=by unfold Ra5;rw[Be2];rfl
def fb4 (x y:V3):Int:=orI (eb4 x.x y.x) (eb4 x.y y.y) (eb4 x.z y.z)
def LtV (x y:V3):Prop:=x.x < y.x∨x.x=y.x∧(x.y < y.y∨x.y=y.y∧x.z < y.z)
instance (x y:V3):Decidable (LtV x y):=by unfold LtV;exact inferInstance
theorem se1 (x y:V3):fb4 x y < 0↔LtV x y:=by
 have h1:=nb0 x.x y.x;have h2:=Rb3 x.x y.x
 have h3:=nb0 x.y y.y;have h4:=Rb3 x.y y.y
 have h5:=nb0 x.z y.z
 unfold fb4 orI LtV
 split
 ·split<;>omega
 ·omega
theorem Aa7 (x y:V3):ltOf fb4 x y=decide (LtV x y):=by
 unfold ltOf
 rw[decide_eq_decide]
 exact se1 x y
theorem Se1:SWO (ltOf fb4) where
 irrefl x:=by rw[Aa7];simp[LtV]
 trans x y z h1 h2:=by rw[Aa7,decide_eq_true_eq] at *;unfold LtV at *;omega
 ntrans x y z h1 h2:=by rw[Aa7,decide_eq_false_iff_not] at *;unfold LtV at *;omega
theorem cf3 (x y:V3) (h1:ltOf fb4 x y=false) (h2:ltOf fb4 y x=false):x=y:=by
 rw[Aa7,decide_eq_false_iff_not] at *
 unfold LtV at *
 obtain⟨a,b,c⟩:=x;obtain⟨a',b',c'⟩:=y
 simp only at *
 have:a=a'∧b=b'∧c=c':=by omega
 obtain⟨rfl,rfl,rfl⟩:=this
 rfl
theorem ic6 (x y:V3):qa8 x y=some (i (fb4 x y),[]):=by
 unfold qa8 fb4
 simp only[He1,He2,cf1,cf2,y9]
theorem He3 (x y:V3):Da7 x y=fb4 x y:=by unfold Da7;rw[ic6];rfl
theorem He4 (x y:V3):Da8 x y=true:=by unfold Da8;rw[ic6];rfl
theorem He5 (x y:V3):(Xa4 [.agg (tV.row x),.agg (tV.row y)] []).run=some (i (fb4 x y),[]):=by
 have:(Xa4 [.agg (tV.row x),.agg (tV.row y)] []).run=sel (Da8 x y) (some (i (Da7 x y),[])) none:=by kernel_rfl
 rw[this,He4,He3]
def Zd9 (p:V3):List Value:=[.int .i64 p.x,.int .i64 p.y,.int .i64 p.z]
instance:Inhabited V3:=⟨⟨0,0,0⟩⟩
def pb7 (l:List V3):List V3:=l.mergeSort fun x y=>!ltOf fb4 y x
theorem Sc4 (l:List V3):(pb7 l).length=l.length:=List.length_mergeSort l
noncomputable def oa3:Sum:=Ed4 tV 147 27 pb7
theorem Nd1:Ce.sortLayV_ren.f 6=146:=by kernel_rfl
theorem Bc1:Ce.sortLayV_ren.t 24=27:=by kernel_rfl
set_option maxRecDepth 100000 in
theorem Da9:g8 prog G 146 oa3:=by
 refine Ed5 (enc:=Zd9) (cf:=fb4) ⟨_,Tryz.func146,by kernel_rfl,of_decide_eq_true (by kernel_rfl)⟩ (by decide) (fun _=>rfl) (fun r h=>Ta1 (n:=3) h) (fun x v hv=>?_) Sc4
  (fun blk off size w=>Ed3 mc8 He5 (fun _=>rfl) (fun _=>rfl) _ _ _ _ _) (fun blk cap d w hcl hH hb hs=>?_)
 ·simp[Zd9] at hv
  rcases hv with rfl | rfl | rfl<;>rfl
 ·have eg:∀ args w,(callFunc 147 args).run Tryz.prog w=.ok (.enter 147 args) w:=enters_of Tryz.func147 (by kernel_rfl) rfl
  have:=AnyQ.slices_SortFunc Ce.sortLayV 3 (by rw[Bc1];exact Tryz.isAgg27) (by rw[Bc1];exact Tryz.sizeOf27) Zd9 (fun _=>rfl) (fun x v hv=>by simp[Zd9] at hv;rcases hv with rfl | rfl | rfl<;>rfl) fb4 Se1 147 #[] blk 0 cap d w eg (hcl 0 d.size) hH hb hs
  rw[Nd1] at this
  refine this.mono fun e w' ⟨h1,d',n,os,h2,h3,h4⟩=>⟨h1,n,os,?_⟩
  have h5:=sorted_unique_holds Se1 cf3 d d' h2 h3
  rw[h4]
  show _=sortWorldK Zd9 3 w blk 0 n (d.toList.mergeSort fun x y=>!ltOf fb4 y x).toArray os
  rw[← h5]
end Go.Ev.Ce
section
namespace Go.Ev.Ce
open Go Go.Ev Go.Ev.L Go.Proofs
set_option maxRecDepth 100000
noncomputable def Db9:List (Nat×Sum):=[]
theorem wb5:j7 prog G Db9:=trivial
structure ka4 where
 alt:Nat
 ns0:Nat
 eh0:List (List b7)
noncomputable def S3 {α:Type} (kk:ka4→α) (x:V3×List V3):α:=(sl (Nat.beq (len (r5 (fun k=>(tV).row (gL tV (x.1::x.2) k)) (List.range (List.length x.2+1)))) 0) (kk ⟨1,0,[]⟩) (sl (Nat.beq 0 0&&Nat.ble ((0+(len (r5 (fun k=>(tV).row (gL tV (x.1::x.2) k)) (List.range (List.length x.2+1)))))*24) room) (kk ⟨1,(0+(len (r5 (fun k=>(tV).row (gL tV (x.1::x.2) k)) (List.range (List.length x.2+1))))),(app [] (r5 (fun k=>(tV).row (gL tV (x.1::x.2) k)) (List.range (List.length x.2+1))))⟩) (kk ⟨0,0,[]⟩)))
noncomputable def ca5 (x:V3×List V3):ka4:=S3 (fun r=>r) x
noncomputable def ua2 (r:ka4):DT (b7×List b9):=(.ite (Nat.beq r.alt 1) (.ret ((.sl 0 0 r.ns0 0),[⟨27,3,r.eh0,true,false,0⟩])) .fail)
theorem Lb7 {α β:Type} (F:α→β) (kk:ka4→α) (x:V3×List V3):F (S3 kk x)=S3 (fun r=>F (kk r)) x:=by unfold S3;(repeat' apply n7 (f:=F))<;>rfl
noncomputable def za8:Sum:=Y7 (jd3 tV) (fun x=>ua2 (ca5 x))
theorem Pa5:g8 prog G 145 za8:=Bb6 (bd Ze9 wb5) fun x=>A4 (Eq.trans (b:=S3 (fun r=>(ua2 r).run) x) (by kernel_rfl) (Lb7 (fun r=>(ua2 r).run) (fun r=>r) x).symm)
structure fa6 where
 ns0:Nat
 eh0:List (List b7)
noncomputable def oa4:List (Nat×Sum):=[]
theorem nb8:j7 prog G oa4:=trivial
structure C8 where
 ns0:Nat
 os4:Nat
 ns4:Nat
structure p4 where
 is3:Int
 is5:Int
 eh0:List (List b7)
noncomputable def ib7 (p:C8) (s:p4):St:=⟨((.sl 0 0 p.ns0 0)::(.unk::(.unk::((i s.is3)::((.sl 0 p.os4 p.ns4 0)::((i s.is5)::(ra 55 []))))))),[⟨27,3,s.eh0,true,false,0⟩]⟩
noncomputable def K6 {α:Type} (k:p4→α) (e:Nat→α) (z:α) (p:C8) (s:p4):α:=(sl (decide (s.is5 < (↑p.ns4:Int))) (sl (inB s.is5 p.ns4) (sl (ldR tV s.eh0 (p.os4+s.is5.toNat)) (sl (inB (W (s.is5 - 1)) p.ns4) (sl (ldR tV s.eh0 (p.os4+(W (s.is5 - 1)).toNat)) (sl (!(((rdR tV s.eh0 (p.os4+s.is5.toNat)).x==(rdR tV s.eh0 (p.os4+(W (s.is5 - 1)).toNat)).x)&&(((rdR tV s.eh0 (p.os4+s.is5.toNat)).y==(rdR tV s.eh0 (p.os4+(W (s.is5 - 1)).toNat)).y)&&(((rdR tV s.eh0 (p.os4+s.is5.toNat)).z==(rdR tV s.eh0 (p.os4+(W (s.is5 - 1)).toNat)).z)&&true)))) (sl (inB s.is5 p.ns4) (sl (ldR tV s.eh0 (p.os4+s.is5.toNat)) (sl (inB s.is3 p.ns0) (sl ((Nat.blt (0+s.is3.toNat) (len s.eh0))&&(Nat.ble (0+3) (len (i6 s.eh0 (0+s.is3.toNat))))) (k ⟨(W (s.is3+1)),(W (s.is5+1)),(setAt s.eh0 (0+s.is3.toNat) (P6 (i6 s.eh0 (0+s.is3.toNat)) 0 [(i (rdR tV s.eh0 (p.os4+s.is5.toNat)).x),(i (rdR tV s.eh0 (p.os4+s.is5.toNat)).y),(i (rdR tV s.eh0 (p.os4+s.is5.toNat)).z)]))⟩) z) z) z) z) (k ⟨s.is3,(W (s.is5+1)),s.eh0⟩)) z) z) z) z) (e 1))
noncomputable def p8 (p:C8) (s:p4):Stp p4:=K6 .next .exit .fail p s
noncomputable def ka5:Lo C8 p4:=⟨En oa4,1,Yd9,[1,1,0,1,4,4,1,0,4,1,2,1,0,1,4,4],[0,3,4,5],.p,[⟨((.s (.o (.sl 0 0 (some 0) none)))::((.s (.o .unk))::((.s (.o .unk))::((.s (.o (.int .i64)))::((.s (.o (.sl 0 0 none none)))::((.s (.o (.int .i64)))::(ru2 55 []))))))),[⟨27,3,true,none⟩],fun a H=>(⟨(slN (slT a 0)),(slO (slT a 4)),(slN (slT a 4))⟩,⟨(toI (slT a 3)),(toI (slT a 5)),(elT H 0)⟩)⟩],p8,[(some 2,fun p s=>⟨((.sl 0 0 p.ns0 0)::(.unk::(.unk::((i s.is3)::((.sl 0 p.os4 p.ns4 0)::((i s.is5)::(ra 23 ((i s.is5)::((.sl 0 p.os4 p.ns4 0)::((i (↑p.ns4:Int))::((b (decide (s.is5 < (↑p.ns4:Int))))::(ra 28 [])))))))))))),[⟨27,3,s.eh0,true,false,0⟩]⟩)],ib7⟩
theorem ib8:ka5.Ok:=Lo.ok [] (by kernel_rfl) .nil rfl (.cons (fun a H=>by kernel_rfl) .nil) fun p s=>(.of @K6 (fun F _ _ _ _ _=>by unfold K6;(repeat' apply n7 (f:=F))<;>rfl) (by kernel_rfl))
structure N9 where
 ns0:Nat
 eh0:List (List b7)
structure r7 where
 is3:Int
noncomputable def ib9 (p:N9) (s:r7):St:=⟨((.sl 0 0 p.ns0 0)::(.unk::(.unk::((i s.is3)::(ra 57 []))))),[⟨27,3,p.eh0,true,false,0⟩]⟩
noncomputable def K7 {α:Type} (k:r7→α) (e:Nat→α) (z:α) (p:N9) (s:r7):α:=let t1:=(lp (p8 (⟨p.ns0,(0+s.is3.toNat),(p.ns0 - s.is3.toNat)⟩:C8)) (⟨s.is3,1,p.eh0⟩:p4));(sl (decide (s.is3 < (↑p.ns0:Int))) (sl (inB s.is3 p.ns0) (sl (ldR tV p.eh0 (0+s.is3.toNat)) (sl (inB (W (s.is3 - 1)) p.ns0) (sl (ldR tV p.eh0 (0+(W (s.is3 - 1)).toNat)) (sl (((rdR tV p.eh0 (0+s.is3.toNat)).x==(rdR tV p.eh0 (0+(W (s.is3 - 1)).toNat)).x)&&(((rdR tV p.eh0 (0+s.is3.toNat)).y==(rdR tV p.eh0 (0+(W (s.is3 - 1)).toNat)).y)&&(((rdR tV p.eh0 (0+s.is3.toNat)).z==(rdR tV p.eh0 (0+(W (s.is3 - 1)).toNat)).z)&&true))) (sl (inB s.is3 (p.ns0+1)) (sl (Nat.beq t1.1 1) (sl (inB t1.2.is3 (p.ns0+1)) (sl (inB t1.2.is3 (p.ns0+1)) (e 1) z) z) z) z) (k ⟨(W (s.is3+1))⟩)) z) z) z) z) (e 2))
noncomputable def L9 (p:N9) (s:r7):Stp r7:=K7 .next .exit .fail p s
noncomputable def ka6:Lo N9 r7:=⟨En oa4,1,Yd9,[1,1,0,1,4,4],[0,3],(.s .p (.s (.b (.s .p (.c (.s .p (.s (.s .p (.b (.u ka5.ls))) .p)) .p))) .p)),[⟨((.s (.o (.sl 0 0 (some 0) none)))::((.s (.o .unk))::((.s (.o .unk))::((.s (.o (.int .i64)))::(ru2 57 []))))),[⟨27,3,true,none⟩],fun a H=>(⟨(slN (slT a 0)),(elT H 0)⟩,⟨(toI (slT a 3))⟩)⟩],L9,[(none,fun p s=>let t1:=(lp (p8 (⟨p.ns0,(0+s.is3.toNat),(p.ns0 - s.is3.toNat)⟩:C8)) (⟨s.is3,1,p.eh0⟩:p4));⟨[(.sl 0 0 (t1.2.is3.toNat - 0) 0)],[⟨27,3,(app (A3 t1.2.eh0 (0+t1.2.is3.toNat)) (app (List.replicate (p.ns0 - t1.2.is3.toNat) [(i 0),(i 0),(i 0)]) (f9 t1.2.eh0 ((0+t1.2.is3.toNat)+(p.ns0 - t1.2.is3.toNat))))),true,false,0⟩]⟩),(some 0,fun p s=>⟨((.sl 0 0 p.ns0 0)::(.unk::(.unk::((i s.is3)::(ra 6 ((i s.is3)::((.sl 0 0 p.ns0 0)::((i (↑p.ns0:Int))::((b (decide (s.is3 < (↑p.ns0:Int))))::(ra 47 [])))))))))),[⟨27,3,p.eh0,true,false,0⟩]⟩)],ib9⟩
theorem jb0:ka6.Ok:=Lo.ok [ka5.pr] (by kernel_rfl) (.cons ib8 .nil) rfl (.cons (fun a H=>by kernel_rfl) .nil) fun p s=>(.of @K7 (fun F _ _ _ _ _=>by unfold K7;(repeat' apply n7 (f:=F))<;>rfl) (by kernel_rfl))
structure fa7 where
 alt:Nat
 ns0:Nat
 eh0:List (List b7)
noncomputable def M0 {α:Type} (kk:fa7→α) (x:fa6):α:=let t1:=(lp (L9 (⟨x.ns0,x.eh0⟩:N9)) (⟨1⟩:r7));let t2:=(lp (p8 (⟨x.ns0,(0+t1.2.is3.toNat),(x.ns0 - t1.2.is3.toNat)⟩:C8)) (⟨t1.2.is3,1,x.eh0⟩:p4));(sl (decide ((↑x.ns0:Int) < 2)) (kk ⟨1,x.ns0,x.eh0⟩) (sl (Nat.beq t1.1 1) (kk ⟨1,(t2.2.is3.toNat - 0),(app (A3 t2.2.eh0 (0+t2.2.is3.toNat)) (app (List.replicate (x.ns0 - t2.2.is3.toNat) [(i 0),(i 0),(i 0)]) (f9 t2.2.eh0 ((0+t2.2.is3.toNat)+(x.ns0 - t2.2.is3.toNat)))))⟩) (sl (Nat.beq t1.1 2) (kk ⟨1,x.ns0,x.eh0⟩) (kk ⟨0,0,[]⟩))))
noncomputable def M3 (x:fa6):fa7:=M0 (fun r=>r) x
noncomputable def oa5 (x:fa6) (r:fa7):DT (b7×List b9):=(.ite (Nat.beq r.alt 1) (.ret ((.sl 0 0 r.ns0 0),[⟨27,3,r.eh0,true,false,0⟩])) .fail)
theorem wb6 {α β:Type} (F:α→β) (kk:fa7→α) (x:fa6):F (M0 kk x)=M0 (fun r=>F (kk r)) x:=by unfold M0;(repeat' apply n7 (f:=F))<;>rfl
noncomputable def qa9:Sum:=Ua6 ⟨[(.s (.o (.sl 0 0 (some 0) none)))],[⟨27,3,true,none⟩],fun a H=>(⟨(slN (slT a 0)),(elT H 0)⟩,())⟩ (fun x=>oa5 x (M3 x))
theorem Ga0:g8 prog G 148 qa9:=P8 (enc:=fun x=>⟨[(.sl 0 0 x.ns0 0)],[⟨27,3,x.eh0,true,false,0⟩]⟩) (fun a H=>by kernel_rfl) (bd af1 nb8) fun x=>Qa3 (.s .p (.s .p (.s (.s .p (.b (.u ka6.ls))) .p))) [ka6.pr] (by kernel_rfl) (.cons jb0 .nil) (Eq.trans (b:=M0 (fun r=>(oa5 x r).run) x) (by kernel_rfl) (wb6 (fun r=>(oa5 x r).run) (fun r=>r) x).symm)
noncomputable def bc4:List (Nat×Sum):=[(145,za8),(146,oa3),(148,qa9)]
theorem Sb4:j7 prog G bc4:=⟨Pa5,Da9,Ga0,trivial⟩
noncomputable def la9 (x:V3×List V3):Option (b7×List b9):=let t1:=(ca5 (hC tV (fun k=>(tV).row (gL tV (x.1::x.2) k)),tC tV (List.length x.2) (fun k=>(tV).row (gL tV (x.1::x.2) k))));let t2:=(M3 ⟨t1.ns0,(app (bL tV (pb7 (slR tV t1.eh0 0 t1.ns0))) (f9 t1.eh0 t1.ns0))⟩);(sl (okL tV (List.length x.2+1) (fun k=>(tV).row (gL tV (x.1::x.2) k))) (sl (Nat.beq t1.alt 1) (sl (Bool.and (Nat.ble t1.ns0 room) (Bool.and (Nat.ble t1.ns0 (len t1.eh0)) (okS tV t1.eh0 0 t1.ns0))) (sl (Nat.beq t2.alt 1) (some ((.sl 0 0 t2.ns0 0),[⟨27,3,t2.eh0,true,false,0⟩])) none) none) none) none)
noncomputable def Na7 (x:V3×List V3):List V3:=Y8 (one (r1L tV)) (la9 x)
noncomputable def Na8 (x:V3×List V3):Bool:=okO (one (r1L tV)) (la9 x)
noncomputable def pb8:Sum:=Y7 (jd3 tV) (fun x=>.guard (Na8 x) (.ret ((one (r1L tV)).enc (Na7 x),[])))
theorem bc5:g8 prog G 92 pb8:=Ua5 (bd b92 Sb4) (one (r1L tV)) (o:=la9) fun x=>A4 (by kernel_rfl)
end Go.Ev.Ce
end
