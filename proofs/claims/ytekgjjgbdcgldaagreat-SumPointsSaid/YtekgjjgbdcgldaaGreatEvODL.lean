/- Own work: a part of the proof. -/
import Derived.Test.YtekgjjgbdcgldaaGreatEvBd
import Derived.Test.YtekgjjgbdcgldaaGreatChecked
import Derived.Test.YtekgjjgbdcgldaaGreatEvOCePf
import Derived.KernelRfl
import Derived.Test.YtekgjjgbdcgldaaGreatEvSp3
import Derived.Test.YtekgjjgbdcgldaaGreatEvMem
import Derived.Shelf.Spec.SlicesGrow
set_option linter.unusedVariables false
set_option linter.unusedSimpArgs false
set_option linter.unnecessarySimpa false
set_option linter.unusedSectionVars false
section
namespace Go.Ev.Ce
open Go Go.Ev Go.Proofs
set_option maxRecDepth 1000000
theorem mx:(Tryz.prog).follows .mixedOrders=true:=Checked.mixed Tryz.checked
theorem b3:y7 Tryz.prog 3 fun E=>k9 E pf3:=A5 mx Tryz.func3 (by kernel_rfl) (i6 (by kernel_rfl))
theorem b4:y7 Tryz.prog 4 fun E=>k9 E pf4:=A5 mx Tryz.func4 (by kernel_rfl) (i6 (by kernel_rfl))
theorem b5:y7 Tryz.prog 5 fun E=>k9 E pf5:=A5 mx Tryz.func5 (by kernel_rfl) (i6 (by kernel_rfl))
theorem b6:y7 Tryz.prog 6 fun E=>k9 E pf6:=A5 mx Tryz.func6 (by kernel_rfl) (i6 (by kernel_rfl))
theorem b15:y7 Tryz.prog 15 fun E=>k9 E jf8:=A5 mx Tryz.func15 (by kernel_rfl) (i6 (by kernel_rfl))
theorem b19:y7 Tryz.prog 19 fun E=>k9 E jf9:=A5 mx Tryz.func19 (by kernel_rfl) (i6 (by kernel_rfl))
theorem b21:y7 Tryz.prog 21 fun E=>k9 E kf0:=A5 mx Tryz.func21 (by kernel_rfl) (i6 (by kernel_rfl))
theorem b23:y7 Tryz.prog 23 fun E=>k9 E bf3:=A5 mx Tryz.func23 (by kernel_rfl) (i6 (by kernel_rfl))
theorem b24:y7 Tryz.prog 24 fun E=>k9 E kf1:=A5 mx Tryz.func24 (by kernel_rfl) (i6 (by kernel_rfl))
theorem b25:y7 Tryz.prog 25 fun E=>k9 E bf4:=A5 mx Tryz.func25 (by kernel_rfl) (i6 (by kernel_rfl))
theorem b26:y7 Tryz.prog 26 fun E=>k9 E bf5:=A5 mx Tryz.func26 (by kernel_rfl) (i6 (by kernel_rfl))
theorem b27:y7 Tryz.prog 27 fun E=>k9 E kf2:=A5 mx Tryz.func27 (by kernel_rfl) (i6 (by kernel_rfl))
theorem b28:y7 Tryz.prog 28 fun E=>k9 E kf3:=A5 mx Tryz.func28 (by kernel_rfl) (i6 (by kernel_rfl))
theorem b29:y7 Tryz.prog 29 fun E=>k9 E Te7:=A5 mx Tryz.func29 (by kernel_rfl) (i6 (by kernel_rfl))
theorem b30:y7 Tryz.prog 30 fun E=>k9 E bf6:=A5 mx Tryz.func30 (by kernel_rfl) (i6 (by kernel_rfl))
theorem b31:y7 Tryz.prog 31 fun E=>k9 E bf7:=A5 mx Tryz.func31 (by kernel_rfl) (i6 (by kernel_rfl))
theorem b32:y7 Tryz.prog 32 fun E=>k9 E bf8:=A5 mx Tryz.func32 (by kernel_rfl) (i6 (by kernel_rfl))
theorem b34:y7 Tryz.prog 34 fun E=>k9 E kf4:=A5 mx Tryz.func34 (by kernel_rfl) (i6 (by kernel_rfl))
theorem b35:y7 Tryz.prog 35 fun E=>k9 E kf5:=A5 mx Tryz.func35 (by kernel_rfl) (i6 (by kernel_rfl))
theorem b52:y7 Tryz.prog 52 fun E=>k9 E kf6:=A5 mx Tryz.func52 (by kernel_rfl) (i6 (by kernel_rfl))
theorem b64:y7 Tryz.prog 64 fun E=>vb4 E Fe2:=re3 (h:=h64) mx Tryz.func64 (by kernel_rfl) Tryz.func176 (by kernel_rfl) (i6 (by kernel_rfl))
theorem b67:y7 Tryz.prog 67 fun E=>k9 E kf7:=A5 mx Tryz.func67 (by kernel_rfl) (i6 (by kernel_rfl))
theorem b68:y7 Tryz.prog 68 fun E=>k9 E kf8:=A5 mx Tryz.func68 (by kernel_rfl) (i6 (by kernel_rfl))
theorem b69:y7 Tryz.prog 69 fun E=>k9 E kf9:=A5 mx Tryz.func69 (by kernel_rfl) (i6 (by kernel_rfl))
theorem b71:y7 Tryz.prog 71 fun E=>k9 E Fe3:=A5 mx Tryz.func71 (by kernel_rfl) (i6 (by kernel_rfl))
theorem b73:y7 Tryz.prog 73 fun E=>k9 E lf0:=A5 mx Tryz.func73 (by kernel_rfl) (i6 (by kernel_rfl))
theorem b74:y7 Tryz.prog 74 fun E=>k9 E Te8:=A5 mx Tryz.func74 (by kernel_rfl) (i6 (by kernel_rfl))
theorem b75:y7 Tryz.prog 75 fun E=>k9 E lf1:=A5 mx Tryz.func75 (by kernel_rfl) (i6 (by kernel_rfl))
theorem b77:y7 Tryz.prog 77 fun E=>k9 E lf2:=A5 mx Tryz.func77 (by kernel_rfl) (i6 (by kernel_rfl))
theorem b78:y7 Tryz.prog 78 fun E=>k9 E re4:=A5 mx Tryz.func78 (by kernel_rfl) (i6 (by kernel_rfl))
theorem b79:y7 Tryz.prog 79 fun E=>vb4 E Te9:=re3 (h:=h79) mx Tryz.func79 (by kernel_rfl) Tryz.func176 (by kernel_rfl) (i6 (by kernel_rfl))
theorem b80:y7 Tryz.prog 80 fun E=>k9 E lf3:=A5 mx Tryz.func80 (by kernel_rfl) (i6 (by kernel_rfl))
theorem b81:y7 Tryz.prog 81 fun E=>k9 E bf9:=A5 mx Tryz.func81 (by kernel_rfl) (i6 (by kernel_rfl))
theorem b82:y7 Tryz.prog 82 fun E=>k9 E cf0:=A5 mx Tryz.func82 (by kernel_rfl) (i6 (by kernel_rfl))
theorem b83:y7 Tryz.prog 83 fun E=>k9 E lf4:=A5 mx Tryz.func83 (by kernel_rfl) (i6 (by kernel_rfl))
theorem b84:y7 Tryz.prog 84 fun E=>k9 E lf5:=A5 mx Tryz.func84 (by kernel_rfl) (i6 (by kernel_rfl))
theorem b85:y7 Tryz.prog 85 fun E=>k9 E lf6:=A5 mx Tryz.func85 (by kernel_rfl) (i6 (by kernel_rfl))
theorem b86:y7 Tryz.prog 86 fun E=>k9 E lf7:=A5 mx Tryz.func86 (by kernel_rfl) (i6 (by kernel_rfl))
theorem b88:y7 Tryz.prog 88 fun E=>k9 E lf8:=A5 mx Tryz.func88 (by kernel_rfl) (i6 (by kernel_rfl))
theorem b89:y7 Tryz.prog 89 fun E=>k9 E cf1:=A5 mx Tryz.func89 (by kernel_rfl) (i6 (by kernel_rfl))
theorem b90:y7 Tryz.prog 90 fun E=>k9 E Ue0:=A5 mx Tryz.func90 (by kernel_rfl) (i6 (by kernel_rfl))
theorem b91:y7 Tryz.prog 91 fun E=>k9 E cf2:=A5 mx Tryz.func91 (by kernel_rfl) (i6 (by kernel_rfl))
theorem b92:y7 Tryz.prog 92 fun E=>k9 E lf9:=A5 mx Tryz.func92 (by kernel_rfl) (i6 (by kernel_rfl))
theorem mf0:y7 Tryz.prog 107 fun E=>k9 E cf3:=A5 mx Tryz.func107 (by kernel_rfl) (i6 (by kernel_rfl))
theorem mf1:y7 Tryz.prog 108 fun E=>k9 E cf4:=A5 mx Tryz.func108 (by kernel_rfl) (i6 (by kernel_rfl))
theorem mf2:y7 Tryz.prog 118 fun E=>k9 E cf5:=A5 mx Tryz.func118 (by kernel_rfl) (i6 (by kernel_rfl))
theorem mf3:y7 Tryz.prog 119 fun E=>k9 E Ne9:=A5 mx Tryz.func119 (by kernel_rfl) (i6 (by kernel_rfl))
theorem mf4:y7 Tryz.prog 120 fun E=>k9 E cf6:=A5 mx Tryz.func120 (by kernel_rfl) (i6 (by kernel_rfl))
theorem mf5:y7 Tryz.prog 122 fun E=>k9 E cf7:=A5 mx Tryz.func122 (by kernel_rfl) (i6 (by kernel_rfl))
theorem mf6:y7 Tryz.prog 125 fun E=>k9 E Oe0:=A5 mx Tryz.func125 (by kernel_rfl) (i6 (by kernel_rfl))
theorem mf7:y7 Tryz.prog 126 fun E=>k9 E Oe1:=A5 mx Tryz.func126 (by kernel_rfl) (i6 (by kernel_rfl))
theorem mf8:y7 Tryz.prog 127 fun E=>k9 E Oe2:=A5 mx Tryz.func127 (by kernel_rfl) (i6 (by kernel_rfl))
theorem mf9:y7 Tryz.prog 128 fun E=>k9 E cf8:=A5 mx Tryz.func128 (by kernel_rfl) (i6 (by kernel_rfl))
theorem nf3:y7 Tryz.prog 129 fun E=>k9 E Oe3:=A5 mx Tryz.func129 (by kernel_rfl) (i6 (by kernel_rfl))
theorem nf4:y7 Tryz.prog 130 fun E=>k9 E cf9:=A5 mx Tryz.func130 (by kernel_rfl) (i6 (by kernel_rfl))
theorem nf5:y7 Tryz.prog 131 fun E=>k9 E df0:=A5 mx Tryz.func131 (by kernel_rfl) (i6 (by kernel_rfl))
theorem nf6:y7 Tryz.prog 135 fun E=>k9 E df1:=A5 mx Tryz.func135 (by kernel_rfl) (i6 (by kernel_rfl))
theorem nf7:y7 Tryz.prog 136 fun E=>k9 E Ed9:=A5 mx Tryz.func136 (by kernel_rfl) (i6 (by kernel_rfl))
theorem nf8:y7 Tryz.prog 137 fun E=>k9 E Oe4:=A5 mx Tryz.func137 (by kernel_rfl) (i6 (by kernel_rfl))
theorem nf9:y7 Tryz.prog 138 fun E=>k9 E Oe5:=A5 mx Tryz.func138 (by kernel_rfl) (i6 (by kernel_rfl))
theorem of0:y7 Tryz.prog 139 fun E=>k9 E Oe6:=A5 mx Tryz.func139 (by kernel_rfl) (i6 (by kernel_rfl))
theorem of1:y7 Tryz.prog 140 fun E=>k9 E df2:=A5 mx Tryz.func140 (by kernel_rfl) (i6 (by kernel_rfl))
theorem of2:y7 Tryz.prog 141 fun E=>k9 E df3:=A5 mx Tryz.func141 (by kernel_rfl) (i6 (by kernel_rfl))
theorem of3:y7 Tryz.prog 142 fun E=>k9 E df4:=A5 mx Tryz.func142 (by kernel_rfl) (i6 (by kernel_rfl))
theorem of4:y7 Tryz.prog 143 fun E=>k9 E df5:=A5 mx Tryz.func143 (by kernel_rfl) (i6 (by kernel_rfl))
theorem Fe4:y7 Tryz.prog 144 fun E=>k9 E Fd0:=A5 mx Tryz.func144 (by kernel_rfl) (i6 (by kernel_rfl))
theorem of5:y7 Tryz.prog 145 fun E=>k9 E df6:=A5 mx Tryz.func145 (by kernel_rfl) (i6 (by kernel_rfl))
theorem of6:y7 Tryz.prog 147 fun E=>k9 E df7:=A5 mx Tryz.func147 (by kernel_rfl) (i6 (by kernel_rfl))
theorem of7:y7 Tryz.prog 148 fun E=>k9 E re5:=A5 mx Tryz.func148 (by kernel_rfl) (i6 (by kernel_rfl))
theorem of8:y7 Tryz.prog 156 fun E=>k9 E df8:=A5 mx Tryz.func156 (by kernel_rfl) (i6 (by kernel_rfl))
theorem of9:y7 Tryz.prog 162 fun E=>k9 E df9:=A5 mx Tryz.func162 (by kernel_rfl) (i6 (by kernel_rfl))
theorem pf0:y7 Tryz.prog 163 fun E=>k9 E Oe7:=A5 mx Tryz.func163 (by kernel_rfl) (i6 (by kernel_rfl))
theorem pf1:y7 Tryz.prog 164 fun E=>k9 E ef0:=A5 mx Tryz.func164 (by kernel_rfl) (i6 (by kernel_rfl))
theorem pf2:y7 Tryz.prog 173 fun E=>k9 E ef1:=A5 mx Tryz.func173 (by kernel_rfl) (i6 (by kernel_rfl))
theorem Ue1:y7 Tryz.prog 174 fun E=>k9 E ef2:=A5 mx Tryz.func174 (by kernel_rfl) (i6 (by kernel_rfl))
theorem pf7:y7 Tryz.prog 175 fun E=>vb4 E Yd9:=re3 (h:=bf2) mx Tryz.func175 (by kernel_rfl) Tryz.func176 (by kernel_rfl) (i6 (by kernel_rfl))
theorem pf8:y7 Tryz.prog 177 fun E=>k9 E ef3:=A5 mx Tryz.func177 (by kernel_rfl) (i6 (by kernel_rfl))
theorem pf9:y7 Tryz.prog 178 fun E=>k9 E ef4:=A5 mx Tryz.func178 (by kernel_rfl) (i6 (by kernel_rfl))
theorem qf0:y7 Tryz.prog 182 fun E=>k9 E Oe8:=A5 mx Tryz.func182 (by kernel_rfl) (i6 (by kernel_rfl))
theorem qf1:y7 Tryz.prog 183 fun E=>k9 E ef5:=A5 mx Tryz.func183 (by kernel_rfl) (i6 (by kernel_rfl))
theorem qf2:y7 Tryz.prog 184 fun E=>k9 E ef6:=A5 mx Tryz.func184 (by kernel_rfl) (i6 (by kernel_rfl))
theorem qf3:y7 Tryz.prog 185 fun E=>k9 E ef7:=A5 mx Tryz.func185 (by kernel_rfl) (i6 (by kernel_rfl))
theorem qf4:y7 Tryz.prog 186 fun E=>k9 E re6:=A5 mx Tryz.func186 (by kernel_rfl) (i6 (by kernel_rfl))
theorem qf5:y7 Tryz.prog 188 fun E=>k9 E Oe9:=A5 mx Tryz.func188 (by kernel_rfl) (i6 (by kernel_rfl))
theorem qf6:y7 Tryz.prog 189 fun E=>k9 E ef8:=A5 mx Tryz.func189 (by kernel_rfl) (i6 (by kernel_rfl))
theorem qf7:y7 Tryz.prog 191 fun E=>k9 E Pe0:=A5 mx Tryz.func191 (by kernel_rfl) (i6 (by kernel_rfl))
theorem qf8:y7 Tryz.prog 197 fun E=>k9 E ef9:=A5 mx Tryz.func197 (by kernel_rfl) (i6 (by kernel_rfl))
theorem qf9:y7 Tryz.prog 198 fun E=>k9 E ff0:=A5 mx Tryz.func198 (by kernel_rfl) (i6 (by kernel_rfl))
theorem rf0:y7 Tryz.prog 220 fun E=>k9 E ff1:=A5 mx Tryz.func220 (by kernel_rfl) (i6 (by kernel_rfl))
end Go.Ev.Ce
end
namespace Go.Ev.L
open Go Go.Ev
noncomputable def Eb8:RT→PC→PS2
 | .s a b,.seq x y=>.seq (Eb8 a x) (Eb8 b y)
 | .c a b,.cond g x y=>.cond g (Eb8 a x) (Eb8 b y)
 | .b a,.block id x=>.block id (Eb8 a x)
 | .i a,.inner f x n c=>.inner f x n (Eb8 a c)
 | .u S,_=>.sum S
 | _,c=>.pc c
theorem rd3 {E:Env} {k:Nat} (rt:RT) (c:PC):Ia5 (fun x=>∀ s,U3 (x.1 s) (K5 E k x.2 s)) (Ob4 rt c)→ga0 E k (Eb8 rt c) c:=by
 induction rt generalizing c with
 | p=>intro h;cases c<;>exact .pc _
 | s a b iha ihb =>
  intro h
  cases c with
  | seq x y=>exact .seq (iha x (Ia5.app h).1) (ihb y (Ia5.app h).2)
  | _=>exact .pc _
 | c a b iha ihb =>
  intro h
  cases c with
  | cond g x y=>exact .cond g (iha x (Ia5.app h).1) (ihb y (Ia5.app h).2)
  | _=>exact .pc _
 | b a iha =>
  intro h
  cases c with
  | block id x=>exact .block id (iha x h)
  | _=>exact .pc _
 | l a iha=>intro h;cases c<;>exact .pc _
 | i a iha =>
  intro h
  cases c with
  | inner f x n c=>exact .inner f x n (iha c h)
  | _=>exact .pc _
 | u S =>
  intro h
  have:Ob4 (.u S) c=[(S,c)]:=by cases c<;>rfl
  rw[this] at h
  cases h with
  | cons h t =>
   have e:Eb8 (.u S) c=.sum S:=by cases c<;>rfl
   rw[e]
   exact .sum h
section
variable {π σ:Type} {E:Env} {k:Nat} {keep:List Nat} {alts:List (Al2 π σ)} {enc:π→σ→St} {step:π→σ→Stp σ} {xs:Xs π σ} {body:PS2} {c:PC}
theorem Db9.belowM (hb:ga0 E k body c) (hN:E.N=rounds+1) (w:Db9 Ed8 k keep (kc6 E k body) alts step xs enc) (s:St):U3 (id7 Ed8 k keep alts step xs s) (K5 E k (.loopM keep c) s):=fun r hr=>by
 obtain⟨t,h1,h2⟩:=w.go hr
 rw[Rd4,hN]
 exact ub9 hb.le _ _ _ (Lb8 h1 h2)
theorem Db9.belowML (hb:ga0 E k body c) (hN:E.N=rounds+1) (w:Db9 Db3 k keep (kc6 E k body) alts step xs enc) (s:St):U3 (id7 Db3 k keep alts step xs s) (K5 E k (.loop keep c) s):=fun r hr=>by
 obtain⟨t,h1,h2⟩:=w.go hr
 rw[id6,hN]
 exact ub9 hb.le _ _ _ (Lb8 h1 h2)
end
end Go.Ev.L
namespace Go.Ev.Ab
open Go Go.Ev
@[reducible] def o (d:Nat) (x:PO):PI:=⟨some d,none,[],x⟩
@[reducible] def s (x:PO):PI:=⟨none,none,[],x⟩
@[reducible] def ci (n:Int):Arg:=.c (.v (.int .i64 n))
@[reducible] def cb (b:Bool):Arg:=.c (.v (.bool b))
@[reducible] def vi (n:Int):b7:=.v (.int .i64 n)
@[reducible] def rep {α:Type} (n:Nat) (x:α):List α:=List.replicate n x
@[reducible] def ki (n:Nat):List CK:=List.replicate n (.int .i64)
@[reducible] def mv (d n:Nat):PI:=o d (.mv (.t n))
@[reducible] def mc (d:Nat) (n:Int):PI:=o d (.mv (ci n))
@[reducible] def mb (d:Nat) (x:Bool):PI:=o d (.mv (cb x))
@[reducible] def fd (d k n:Nat):PI:=o d (.fld k (.t n))
@[reducible] def lf (d k n:Nat):PI:=o d (.load (ki k) k false (.t n))
@[reducible] def ex (d x k:Nat):PI:=o d (.ext (.t x) k)
@[reducible] def gf (n:Nat) (x:PI):PI:=⟨x.dst,some (n,false),x.hide,x.op⟩
@[reducible] def so (l:List PI) (x:PC):PC:=.seq (.ops l) x
@[reducible] def sq (x y:PC):PC:=.seq x y
@[reducible] def ts (l:List Nat):List Arg:=l.map .t
@[reducible] def cl (f:Nat) (l:List Nat):PO:=.call f (ts l)
@[reducible] def sT (k a b:Nat):PI:=s (.store k (.t a) (.t b))
@[reducible] def pa (d c x:Nat):PI:=o d (.pick (.t c) (.t x) (cb false))
@[reducible] def po (d c x:Nat):PI:=o d (.pick (.t c) (cb true) (.t x))
@[reducible] def al (d k:Nat) (n:Int):PI:=o d (.alloc (rep k (vi n)))
@[reducible] def ap (d et es n x y:Nat):PI:=o d (.append et es n (.t x) (.t y))
end Go.Ev.Ab
namespace Go.Ev.L
open Go Go.Ev
def Cps {π σ:Type} (u:∀ {α:Type},(σ→α)→(Nat→α)→α→π→σ→α):Prop :=
 ∀ {α β:Type} (F:α→β) (k:σ→α) (e:Nat→α) (z:α) (p:π) (s:σ),F (u k e z p s)=u (fun x=>F (k x)) (fun t=>F (e t)) (F z) p s
@[reducible] noncomputable def foL {π σ:Type} (en:π→σ→St) (xs:Xs π σ) (p:π) (s:σ):Stp σ→Option (e7×St):=Db4 (fun s'=>some (.normal,en p s')) (fun t=>xOf xs p s t 1) none
structure Lo (π σ:Type) where
 E:Env
 k:Nat
 F:PFn
 at':List Nat
 kp:List Nat
 rt:RT
 al:List (Al2 π σ)
 st:π→σ→Stp σ
 xs:Xs π σ
 en:π→σ→St
namespace Lo
variable {π σ:Type} (L:Lo π σ)
noncomputable def lc:PC:=jf6 L.at' L.F.body
noncomputable def ls:St→DT (e7×St):=id7 Db3 L.k L.kp L.al L.st L.xs
noncomputable def lsM:St→DT (e7×St):=id7 Ed8 L.k L.kp L.al L.st L.xs
noncomputable def pr:(St→DT (e7×St))×PC:=(L.ls,.loop L.kp L.lc)
noncomputable def prM:(St→DT (e7×St))×PC:=(L.lsM,.loopM L.kp L.lc)
def Ok:Prop:=∀ s,ba4 L.k L.F.res (L.pr.1 s) (K5 L.E L.k L.pr.2 s)
def OkE:Prop:=∀ s,U3 (L.pr.1 s) (K5 L.E L.k L.pr.2 s)
def OkM:Prop:=∀ s,U3 (L.prM.1 s) (K5 L.E L.k L.prM.2 s)
def Rd (hd:St→DT St) (bd:St→DT (e7×St)) (p:π) (s:σ) (a:St) (b:Stp σ):Prop:=(vb0 hd bd a).run=foL L.en L.xs p s b
def H0:Prop:=∀ p s,L.Rd (Db3 L.k L.kp) (Xd1 L.E L.k L.F.res (Zc4 L.rt L.lc)) p s (L.en p s) (L.st p s)
def H1:Prop:=∀ p s,L.Rd (Db3 L.k L.kp) (kc6 L.E L.k (Eb8 L.rt L.lc)) p s (L.en p s) (L.st p s)
def H2:Prop:=∀ p s,L.Rd (Ed8 L.k L.kp) (kc6 L.E L.k (Eb8 L.rt L.lc)) p s (L.en p s) (L.st p s)
def HA:Prop:=Ia5 (fun x=>∀ a H,(⟨fe3 x.sh a,fe4 x.bl H⟩:St)=L.en (x.rd a H).1 (x.rd a H).2) L.al
variable {L}
theorem Rd.of {hd : St → DT St} {bd : St → DT (e7 × St)} {p : π} {s : σ} {a : St} (u : ∀ {α : Type}, (σ → α) → (Nat → α) → α → π → σ → α)
  (q:Cps @u) (H:(vb0 hd bd a).run=u (fun x=>foL L.en L.xs p s (.next x)) (fun t=>foL L.en L.xs p s (.exit t)) (foL L.en L.xs p s .fail) p s):L.Rd hd bd p s a (u .next .exit .fail p s) :=
 H.trans (q (foL L.en L.xs p s) Stp.next Stp.exit Stp.fail p s).symm
theorem Rd.sel {hd:St→DT St} {bd:St→DT (e7×St)} {p:π} {s:σ} {a1 a0:St} {b1 b0:Stp σ} (c:Bool) (h1:L.Rd hd bd p s a1 b1) (h0:L.Rd hd bd p s a0 b0):L.Rd hd bd p s (sel c a1 a0) (sel c b1 b0):=by
 cases c with
 | true=>exact h1
 | false=>exact h0
theorem ok (l:List ((St→DT (e7×St))×PC)) (hs:Ob4 L.rt L.lc=l) (hl:Ia5 (fun x=>∀ s,ba4 L.k L.F.res (x.1 s) (K5 L.E L.k x.2 s)) l) (hN:L.E.N=rounds+1) (ha:L.HA) (h:L.H0):L.Ok :=
 Db9.belowC (Yd1 _ _ (by rw[hs];exact hl)) hN ⟨ha,h⟩
theorem okE (l:List ((St→DT (e7×St))×PC)) (hs:Ob4 L.rt L.lc=l) (hl:Ia5 (fun x=>∀ s,U3 (x.1 s) (K5 L.E L.k x.2 s)) l) (hN:L.E.N=rounds+1) (ha:L.HA) (h:L.H1):L.OkE :=
 Db9.belowML (rd3 _ _ (by rw[hs];exact hl)) hN ⟨ha,h⟩
theorem okM (l:List ((St→DT (e7×St))×PC)) (hs:Ob4 L.rt L.lc=l) (hl:Ia5 (fun x=>∀ s,U3 (x.1 s) (K5 L.E L.k x.2 s)) l) (hN:L.E.N=rounds+1) (ha:L.HA) (h:L.H2):L.OkM :=
 Db9.belowM (rd3 _ _ (by rw[hs];exact hl)) hN ⟨ha,h⟩
end Lo
theorem xa9 {E : Env} {F : PFn} {args : List b7} {blks : List c7} {o : Option (b7 × List c7)} (rt : RT) (l : List ((St → DT (e7 × St)) × PC)) (hs : Ob4 rt F.body = l)
  (hl:Ia5 (fun x=>∀ s,ba4 (len blks) F.res (x.1 s) (K5 E (len blks) x.2 s)) l) (h:(af3 E F (Zc4 rt F.body) args blks).run=o) (r:b7×List c7) (hr:o=some r):(k9 E F args blks).run=some r :=
 Pd8 (Yd1 rt _ (by rw[hs];exact hl)) r (h.trans hr)
theorem Fd1 {E : Env} {F : PFn} {args : List b7} {blks : List c7} {o : Option (b7 × List c7)} (rt : RT) (l : List ((St → DT (e7 × St)) × PC)) (hs : Ob4 rt F.body = l)
  (hl:Ia5 (fun x=>∀ s,U3 (x.1 s) (K5 E (len blks) x.2 s)) l) (h:(Ne8 E F (Eb8 rt F.body) args blks).run=o) (r:b7×List c7) (hr:o=some r):(vb4 E F args blks).run=some r :=
 Ed7 (rd3 rt _ (by rw[hs];exact hl)) r (h.trans hr)
theorem A6 {A o:Option (b7×List c7)} (h:A=o) (r:b7×List c7) (hr:o=some r):A=some r:=h.trans hr
end Go.Ev.L
namespace Go.Ev.Ce
structure V3 where
 x:Int
 y:Int
 z:Int
structure Pln where
 n:V3
 b:Int
structure Pt where
 px:Int
 py:Int
 pz:Int
 pw:Int
def f0 (a b:V3):V3:=⟨a.y*b.z - a.z*b.y,a.z*b.x - a.x*b.z,a.x*b.y - a.y*b.x⟩
def dot (a b:V3):Int:=a.x*b.x+a.y*b.y+a.z*b.z
def mw (p q r:Pln):Int:=dot p.n (f0 q.n r.n)
end Go.Ev.Ce
namespace Go.Ev.Ce
open Go Go.Ev Go.Ev.L Go.Proofs
@[reducible] noncomputable def prog:Program:=Tryz.prog
noncomputable def G:Nat→List Value:=fun _=>[]
noncomputable def En (l:List (Nat×Sum)):Env:={ P:=prog,G,fns:=fun _=>none,call:=Re8 l,own:=fun f j=>Bool.and (Ta1 f [150,121,154,91,139,144,146,148]) (Nat.beq j 0),N:=18446744073709551616 }
@[reducible] def u:b7:=.v (.tuple #[])
theorem ff2 {l:List (Nat×Sum)} (h:j9 prog G l):∀ f,g9 (En l).P (En l).G f ((En l).call f):=Xd0 h
theorem bd {l:List (Nat×Sum)} {f:FuncId} {R:Env→Sum} (b:y7 prog f R) (h:j9 prog G l):g9 prog G f (R (En l)):=b rfl (ff2 h)
noncomputable def tV:Ty V3 where
 es:=3
 row x:=[i x.x,i x.y,i x.z]
 rd r:=⟨toI (hdA r),toI (hdA (tlA r)),toI (hdA (tlA (tlA r)))⟩
 ok r:=Fa6 3 r
 cks:=List.replicate 3 (.int .i64)
 d:=⟨0,0,0⟩
 h0 _:=rfl
 h1 _:=rfl
 h2 _:=rfl
 h3 _ h:=.of (bb2 h)
 h4 _:=rfl
 h5 _:=rfl
noncomputable def r1V:R1 V3:=r1A tV 3 fun _ h=>h
noncomputable def tP:Ty Pln where
 es:=4
 row x:=[i x.n.x,i x.n.y,i x.n.z,i x.b]
 rd r:=⟨⟨toI (hdA r),toI (hdA (tlA r)),toI (hdA (tlA (tlA r)))⟩,toI (hdA (tlA (tlA (tlA r))))⟩
 ok r:=Fa6 4 r
 cks:=List.replicate 4 (.int .i64)
 d:=⟨⟨0,0,0⟩,0⟩
 h0 _:=rfl
 h1 _:=rfl
 h2 _:=rfl
 h3 _ h:=.of (bb2 h)
 h4 _:=rfl
 h5 _:=rfl
noncomputable def r1P:R1 Pln:=r1A tP 4 fun _ h=>h
structure Tp where
 p:Pln
 q:Pln
 r:Pln
structure Q2 where
 a:V3
 b:V3
end Go.Ev.Ce
section
namespace Go.Ev.Ce
open Go Go.Ev Go.Ev.L Go.Proofs
set_option maxRecDepth 100000
noncomputable def Rd5:List (Nat×Sum):=[]
theorem Fd2:j9 prog G Rd5:=trivial
noncomputable def Mb3 (x:V3) (y:V3):V3:=(⟨(W (x.x+y.x)),(W (x.y+y.y)),(W (x.z+y.z))⟩:V3)
noncomputable def jd7:Sum:=ga1 (K9 tV) (K9 tV) (fun x y=>.ret ((one r1V).enc (Mb3 x y),[]))
theorem Rd6:g9 prog G 80 jd7:=Da0 (bd b80 Fd2) fun x y=>A6 (by kernel_rfl)
noncomputable def Rd7:List (Nat×Sum):=[]
theorem Fd3:j9 prog G Rd7:=trivial
noncomputable def da2 (x:V3) (y:V3):Int:=(W ((W ((W (x.x*y.x))+(W (x.y*y.y))))+(W (x.z*y.z))))
noncomputable def qb1:Sum:=ga1 (K9 tV) (K9 tV) (fun x y=>.ret ((one r1I).enc (da2 x y),[]))
theorem vb7:g9 prog G 84 qb1:=Da0 (bd b84 Fd3) fun x y=>A6 (by kernel_rfl)
noncomputable def rd4:List (Nat×Sum):=[]
theorem Zc6:j9 prog G rd4:=trivial
noncomputable def ua5 (x:V3) (y:V3):V3:=(⟨(W ((W (x.y*y.z)) - (W (x.z*y.y)))),(W ((W (x.z*y.x)) - (W (x.x*y.z)))),(W ((W (x.x*y.y)) - (W (x.y*y.x))))⟩:V3)
noncomputable def Eb9:Sum:=ga1 (K9 tV) (K9 tV) (fun x y=>.ret ((one r1V).enc (ua5 x y),[]))
theorem bc8:g9 prog G 164 Eb9:=Da0 (bd pf1 Zc6) fun x y=>A6 (by kernel_rfl)
structure re7 where
structure re8 where
 is0:Int
 is1:Int
structure Ue2 where
 i9:List Pln
 d6:Int
 b8:Int
 d8:Int
 g8:Int
structure Ue3 where
 is5:Int
structure Ae5 where
 od0:List Pt
 d6:Int
 b8:Int
 d8:Int
 g8:Int
structure Ae6 where
 is5:Int
structure ke2 where
 i9:List Pln
 is4:Int
 is5:Int
structure ke3 where
 ph:Nat
 is6:Int
 ns3:Nat
 eh0:List (List b7)
structure ke4 where
 is4:Int
structure ke5 where
 ph:Nat
 i9:List Pln
 is5:Int
 ns3:Nat
 eh0:List (List b7)
structure ke6 where
structure ke7 where
 ph:Nat
 i9:List Pln
 is4:Int
 ns3:Nat
 eh0:List (List b7)
noncomputable def jb9:List (Nat×Sum):=[]
theorem Vb1:j9 prog G jb9:=trivial
@[reducible] noncomputable def ya0:Sum:=k9 (En jb9) Pe0
theorem Ia6:g9 prog G 191 ya0:=bd qf7 Vb1
noncomputable def wc8:List (Nat×Sum):=[]
theorem kc7:j9 prog G wc8:=trivial
noncomputable def ua6 (x:Int):Option (b7×List c7):=(sl (decide (x < 0)) (some ((i (W (0 - x))),[])) (some ((i x),[])))
noncomputable def ma8 (x:Int):Int:=M4 (one r1I) (ua6 x)
noncomputable def ma9 (x:Int):Bool:=okO (one r1I) (ua6 x)
noncomputable def Fb0:Sum:=V6 cI (fun x=>.guard (ma9 x) (.ret ((one r1I).enc (ma8 x),[])))
theorem wc9:g9 prog G 184 Fb0:=Ta2 (bd qf2 kc7) (one r1I) (o:=ua6) fun x=>A6 (by kernel_rfl)
noncomputable def uc5:List (Nat×Sum):=[(184,Fb0),(191,ya0)]
theorem rd5:j9 prog G uc5:=⟨wc9,Ia6,trivial⟩
structure ha9 where
 is6:Int
 d6:Int
 b8:Int
 d8:Int
 Ma7:Int
 Ma8:Int
 Ma9:Int
structure N7 where
 is5:Int
 is7:Int
noncomputable def Zc7 (p:ha9) (s:N7):St:=⟨(.unk::((.ptr 0 0 0 0)::((.ptr 1 0 0 0)::(.unk::((.ptr 2 0 0 0)::((i s.is5)::((i p.is6)::((i s.is7)::(ra 38 []))))))))),[⟨0,3,[[(i p.d6),(i p.b8),(i p.d8)]],true,false,0⟩,⟨0,3,[[(i 0),(i 0),(i 0)]],true,false,0⟩,⟨0,3,[[(i p.Ma7),(i p.Ma8),(i p.Ma9)]],true,false,0⟩]⟩
noncomputable def ua7 {α:Type} (k:N7→α) (e:Nat→α) (z:α) (p:ha9) (s:N7):α:=(sl (decide (s.is7 > 0)) (sl (s.is7==0) z (k ⟨s.is7,(Int.tmod s.is5 s.is7)⟩)) (e 1))
noncomputable def ca4 (p:ha9) (s:N7):Stp N7:=ua7 .next .exit .fail p s
noncomputable def vb8:Lo ha9 N7:=⟨En uc5,0,Oe7,[1,1,1,0,1,4,4,1,0,4,1,1,4,4],[1,2,4,5,6,7],.p,[⟨((.s (.o .unk))::((.s (.o (.ptr 0 0 0 0)))::((.s (.o (.ptr 1 0 0 0)))::((.s (.o .unk))::((.s (.o (.ptr 2 0 0 0)))::((.s (.o (.int .i64)))::((.s (.o (.int .i64)))::((.s (.o (.int .i64)))::(ru2 38 []))))))))),[⟨0,3,true,(some [[(.o (.int .i64)),(.o (.int .i64)),(.o (.int .i64))]])⟩,⟨0,3,true,(some [[(.o (.lit .i64 0)),(.o (.lit .i64 0)),(.o (.lit .i64 0))]])⟩,⟨0,3,true,(some [[(.o (.int .i64)),(.o (.int .i64)),(.o (.int .i64))]])⟩],fun a H=>(⟨(toI (slT a 6)),(toI (slT (rwT (elT H 0) 0) 0)),(toI (slT (rwT (elT H 0) 0) 1)),(toI (slT (rwT (elT H 0) 0) 2)),(toI (slT (rwT (elT H 2) 0) 0)),(toI (slT (rwT (elT H 2) 0) 1)),(toI (slT (rwT (elT H 2) 0) 2))⟩,⟨(toI (slT a 5)),(toI (slT a 7))⟩)⟩],ca4,[(some 2,fun p s=>⟨(.unk::((.ptr 0 0 0 0)::((.ptr 1 0 0 0)::(.unk::((.ptr 2 0 0 0)::((i s.is5)::((i p.is6)::((i s.is7)::(ra 15 ((i s.is7)::((b (decide (s.is7 > 0)))::(ra 21 [])))))))))))),[⟨0,3,[[(i p.d6),(i p.b8),(i p.d8)]],true,false,0⟩,⟨0,3,[[(i 0),(i 0),(i 0)]],true,false,0⟩,⟨0,3,[[(i p.Ma7),(i p.Ma8),(i p.Ma9)]],true,false,0⟩]⟩)],Zc7⟩
theorem Zc8:vb8.Ok:=Lo.ok [] (by kernel_rfl) .nil rfl (.cons (fun a H=>by kernel_rfl) .nil) fun p s=>(.of @ua7 (fun F _ _ _ _ _=>by unfold ua7;(repeat' apply k8 (f:=F))<;>rfl) (by kernel_rfl))
noncomputable def db3 (x:V3):Option (b7×List c7):=let t1:=(ma8 x.x);let t2:=(lp (ca4 (⟨0,x.x,x.y,x.z,x.x,x.y,x.z⟩:ha9)) (⟨0,t1⟩:N7));let t3:=(ma8 x.y);let t4:=(lp (ca4 (⟨1,x.x,x.y,x.z,x.x,x.y,x.z⟩:ha9)) (⟨t2.2.is5,t3⟩:N7));let t5:=(ma8 x.z);let t6:=(lp (ca4 (⟨2,x.x,x.y,x.z,x.x,x.y,x.z⟩:ha9)) (⟨t4.2.is5,t5⟩:N7));(sl (x.x==(-9223372036854775808)) (some ((.tup [(.agg [(i 0),(i 0),(i 0)]),(i 0)]),[])) (sl (ma9 x.x) (sl (Nat.beq t2.1 1) (sl (x.y==(-9223372036854775808)) (some ((.tup [(.agg [(i 0),(i 0),(i 0)]),(i 0)]),[])) (sl (ma9 x.y) (sl (Nat.beq t4.1 1) (sl (x.z==(-9223372036854775808)) (some ((.tup [(.agg [(i 0),(i 0),(i 0)]),(i 0)]),[])) (sl (ma9 x.z) (sl (Nat.beq t6.1 1) (sl (t6.2.is5==0) (some ((.tup [(.agg [(i 0),(i 0),(i 0)]),(i 0)]),[])) (sl (t6.2.is5==0) none (sl (t6.2.is5==0) none (sl (t6.2.is5==0) none (some ((.tup [(.agg [(i (W (Int.tdiv x.x t6.2.is5))),(i (W (Int.tdiv x.y t6.2.is5))),(i (W (Int.tdiv x.z t6.2.is5)))]),(i t6.2.is5)]),[])))))) none) none)) none) none)) none) none))
noncomputable def Fa8 (x:V3):V3×Int:=M4 (two r1V r1I) (db3 x)
noncomputable def db4 (x:V3):Bool:=okO (two r1V r1I) (db3 x)
noncomputable def Vb2:Sum:=V6 (K9 tV) (fun x=>.guard (db4 x) (.ret ((two r1V r1I).enc (Fa8 x),[])))
theorem uc6:g9 prog G 163 Vb2:=Ta2 (bd pf0 rd5) (two r1V r1I) (o:=db3) fun x=>xa9 (.s .p (.s .p (.s .p (.s (.s .p (.b (.l (.s .p (.s (.b (.s .p (.s .p (.b (.u vb8.ls))))) .p))))) .p)))) [vb8.pr] (by kernel_rfl) (.cons Zc8 .nil) (by kernel_rfl)
noncomputable def rd6:List (Nat×Sum):=[(163,Vb2),(191,ya0)]
theorem Zc9:j9 prog G rd6:=⟨uc6,Ia6,trivial⟩
noncomputable def Ta3 (x:Pln):Option (b7×List c7):=let t1:=(Fa8 x.n);(sl (decide (x.n.x < (-4608))) (some ((b false),[])) (sl (decide (x.n.x > 4608)) (some ((b false),[])) (sl (decide (x.n.y < (-4608))) (some ((b false),[])) (sl (decide (x.n.y > 4608)) (some ((b false),[])) (sl (decide (x.n.z < (-4608))) (some ((b false),[])) (sl (decide (x.n.z > 4608)) (some ((b false),[])) (sl (db4 x.n) (sl (t1.2==1) (sl (decide (x.b≥(-2097152))) (some ((b (decide (x.b≤2097152))),[])) (some ((b false),[]))) (some ((b false),[]))) none)))))))
noncomputable def kb0 (x:Pln):Bool:=M4 (one r1B) (Ta3 x)
noncomputable def kb1 (x:Pln):Bool:=okO (one r1B) (Ta3 x)
noncomputable def uc7:Sum:=V6 (K9 tP) (fun x=>.guard (kb1 x) (.ret ((one r1B).enc (kb0 x),[])))
theorem rd7:g9 prog G 156 uc7:=Ta2 (bd of8 Zc9) (one r1B) (o:=Ta3) fun x=>A6 (by kernel_rfl)
structure Ae7 where
 i9:List Pln
structure Ae8 where
 is3:Int
structure Fe5 where
 i9:List Pln
 Ae4:List Pt
 is4:Int
structure Fe6 where
 bs5:Bool
 is6:Int
structure Fe7 where
structure Fe8 where
 i9:List Pln
 Ae4:List Pt
 is4:Int
noncomputable def Rd8:List (Nat×Sum):=[]
theorem Fd4:j9 prog G Rd8:=trivial
noncomputable def qb2 (x:Int) (y:Int):Option (b7×List c7):=(sl (decide (y < 1)) (some ((i 0),[])) (sl (y==0) none (sl (y==0) none (some ((i (Int.tmod (W ((Int.tmod x y)+y)) y)),[])))))
noncomputable def bb3 (x:Int) (y:Int):Int:=M4 (one r1I) (qb2 x y)
noncomputable def qb3 (x:Int) (y:Int):Bool:=okO (one r1I) (qb2 x y)
noncomputable def kc8:Sum:=ga1 cI cI (fun x y=>.guard (qb3 x y) (.ret ((one r1I).enc (bb3 x y),[])))
theorem Nc1:g9 prog G 27 kc8:=Oa2 (bd b27 Fd4) (one r1I) (o:=qb2) fun x y=>A6 (by kernel_rfl)
end Go.Ev.Ce
end
section
namespace Go.Ev.Ce
open Go Go.Ev Go.Ev.L Go.Proofs
set_option maxRecDepth 100000
noncomputable def rd8:List (Nat×Sum):=[]
theorem ad1:j9 prog G rd8:=trivial
noncomputable def r7 (x:V3) (y:V3):Int:=(W ((W ((W (x.x*y.x))+(W (x.y*y.y))))+(W (x.z*y.z))))
noncomputable def Ta4:Sum:=ga1 (K9 tV) (K9 tV) (fun x y=>.ret ((one r1I).enc (r7 x y),[]))
theorem Ya7:g9 prog G 83 Ta4:=Da0 (bd b83 ad1) fun x y=>A6 (by kernel_rfl)
noncomputable def rd9:List (Nat×Sum):=[]
theorem ad2:j9 prog G rd9:=trivial
noncomputable def r8 (x:V3) (y:V3):V3:=(⟨(W (x.x+y.x)),(W (x.y+y.y)),(W (x.z+y.z))⟩:V3)
noncomputable def uc8:Sum:=ga1 (K9 tV) (K9 tV) (fun x y=>.ret ((one r1V).enc (r8 x y),[]))
theorem sd0:g9 prog G 34 uc8:=Da0 (bd b34 ad2) fun x y=>A6 (by kernel_rfl)
noncomputable def Nc2:List (Nat×Sum):=[]
theorem xc0:j9 prog G Nc2:=trivial
noncomputable def ca5 (x:V3) (y:V3):V3:=(⟨(W ((W (x.y*y.z)) - (W (x.z*y.y)))),(W ((W (x.z*y.x)) - (W (x.x*y.z)))),(W ((W (x.x*y.y)) - (W (x.y*y.x))))⟩:V3)
noncomputable def mb5:Sum:=ga1 (K9 tV) (K9 tV) (fun x y=>.ret ((one r1V).enc (ca5 x y),[]))
theorem Fb1:g9 prog G 142 mb5:=Da0 (bd of3 xc0) fun x y=>A6 (by kernel_rfl)
structure Fe9 where
 Na0:List Int
 is7:Int
 is8:Int
structure Ge0 where
 is3:Int
 is5:Int
structure Ge1 where
 is7:Int
structure Ge2 where
 is3:Int
 Na0:List Int
 is8:Int
structure ke8 where
 fa6:Int
 fa7:Int
 fa8:Int
 Wc8:Int
 d6:Int
 b8:Int
 d8:Int
 g8:Int
structure ke9 where
 bs0:Bool
structure Xc0 where
 i9:List Pln
 d6:Int
 b8:Int
 d8:Int
 g8:Int
structure Fc5 where
 i9:List Pln
 is7:Int
 d6:Int
 b8:Int
 d8:Int
 g8:Int
structure Fc6 where
 is8:Int
structure Xc1 where
 alt:Nat
 is0:Int
structure xc1 where
 i9:List Pln
 d6:Int
 b8:Int
 d8:Int
 g8:Int
structure xc2 where
 alt:Nat
 bs0:Bool
structure qb4 where
 is3:Int
 Qe4:List Pln
 w4:Int
 Md5:Int
 if4:Nat
 if5:Nat→List b7
 Ze3:Int
 tf0:Int
 tf1:Nat
 tf2:Nat→List b7
 tf3:Int
 s8:List Pln
 F6:Int
 F7:Int
 F8:Int
 Na1:Int
 Ma7:Int
 Ma8:Int
 Ma9:Int
 Ne1:Int
 ke1:List Pln
structure jd8 where
 ph:Nat
 tf7:Int
 if6:Nat
 eh6:List (List b7)
 eh7:List (List b7)
structure qb5 where
 is3:Int
 w4:Int
 Md5:Int
 if4:Nat
 if5:Nat→List b7
 Ze3:Int
 F6:Int
 F7:Int
 F8:Int
 Na1:Int
structure jd9 where
 ph:Nat
 Qe4:List Pln
 tf0:Int
 s8:List Pln
 Ze5:List Pln
 y9:Nat
 eh5:List (List b7)
 eh6:List (List b7)
structure kd0 where
 w4:Int
structure kd1 where
 ph:Nat
 Qe4:List Pln
 Md5:Int
 s8:List Pln
 s9:List Pln
 I8:Nat
 eh4:List (List b7)
 eh5:List (List b7)
end Go.Ev.Ce
end
section
namespace Go.Ev.Ce
open Go Go.Ev Go.Ev.L Go.Proofs
set_option maxRecDepth 100000
noncomputable def yb4:List (Nat×Sum):=[]
theorem kc9:j9 prog G yb4:=trivial
structure na0 where
 is0:Int
 Md6:List Int
 is8:Int
structure I5 where
 is9:Int
noncomputable def bc9 (p:na0) (s:I5):St:=⟨((i p.is0)::(ra 6 ((eL tI p.Md6)::((i p.is8)::((i s.is9)::(ra 13 [])))))),[]⟩
noncomputable def ea3 {α:Type} (k:I5→α) (e:Nat→α) (z:α) (p:na0) (s:I5):α:=(sl (decide (s.is9 < p.is8)) (sl (inB s.is9 (List.length p.Md6)) (sl (decide ((gL tI p.Md6 s.is9.toNat) < (W (0 - p.is0)))) (e 1) (sl (decide ((gL tI p.Md6 s.is9.toNat) > p.is0)) (e 1) (k ⟨(W (s.is9+1))⟩))) z) (e 2))
noncomputable def ia0 (p:na0) (s:I5):Stp I5:=ea3 .next .exit .fail p s
noncomputable def Oa3:Lo na0 I5:=⟨En yb4,0,Oe5,[1,0,1,4,4],[0,7,8,9],.p,[⟨((.s (.o (.int .i64)))::(ru2 6 ((.s (.c 1 (nL tI)))::((.s (.o (.int .i64)))::((.s (.o (.int .i64)))::(ru2 13 [])))))),[],fun a H=>(⟨(toI (slT a 0)),(rL tI (slT a 7)),(toI (slT a 8))⟩,⟨(toI (slT a 9))⟩)⟩],ia0,[(none,fun p s=>⟨[(b false)],[]⟩),(some 0,fun p s=>⟨((i p.is0)::(ra 6 ((eL tI p.Md6)::((i p.is8)::((i s.is9)::((b (decide (s.is9 < p.is8)))::(ra 12 []))))))),[]⟩)],bc9⟩
theorem cc2:Oa3.Ok:=Lo.ok [] (by kernel_rfl) .nil rfl (.cons (fun a H=>by kernel_rfl) .nil) fun p s=>(.of @ea3 (fun F _ _ _ _ _=>by unfold ea3;(repeat' apply k8 (f:=F))<;>rfl) (by kernel_rfl))
noncomputable def ua8 (x:Int) (y:List Int):Option (b7×List c7):=let t1:=(lp (ia0 (⟨x,(rt tI y),(↑(List.length y):Int)⟩:na0)) (⟨0⟩:I5));(sl ((cnE tI y)&&true) (sl (Nat.beq t1.1 1) (some ((b false),[])) (sl (Nat.beq t1.1 2) (some ((b true),[])) none)) none)
noncomputable def L0 (x:Int) (y:List Int):Bool:=M4 (one r1B) (ua8 x y)
noncomputable def L1 (x:Int) (y:List Int):Bool:=okO (one r1B) (ua8 x y)
noncomputable def Ia7:Sum:=ga1 cI (oa4 tI) (fun x y=>.guard (L1 x y) (.ret ((one r1B).enc (L0 x y),[])))
theorem Va3:g9 prog G 138 Ia7:=Oa2 (bd nf9 kc9) (one r1B) (o:=ua8) fun x y=>xa9 (.s .p (.s (.s .p (.b (.u Oa3.ls))) .p)) [Oa3.pr] (by kernel_rfl) (.cons cc2 .nil) (by kernel_rfl)
noncomputable def cc3:List (Nat×Sum):=[]
theorem Vb3:j9 prog G cc3:=trivial
noncomputable def S6 (x:Int):Int:=(if (W (0 - x)) > x then (W (0 - x)) else x)
noncomputable def Oa4:Sum:=V6 cI (fun x=>.ret ((one r1I).enc (S6 x),[]))
theorem kb2:g9 prog G 183 Oa4:=vb1 (bd qf1 Vb3) fun x=>A6 (by kernel_rfl)
noncomputable def Oa5:List (Nat×Sum):=[(183,Oa4)]
theorem cc4:j9 prog G Oa5:=⟨kb2,trivial⟩
structure X5 where
 Na0:List Int
 is7:Int
 is8:Int
structure K0 where
 is3:Int
 is5:Int
noncomputable def Vb4 (p:X5) (s:K0):St:=⟨(ra 3 ((i s.is3)::(.unk::((i s.is5)::((eL tI p.Na0)::((i p.is7)::((i p.is8)::(ra 15 [])))))))),[]⟩
noncomputable def ba0 {α:Type} (k:K0→α) (e:Nat→α) (z:α) (p:X5) (s:K0):α:=(sl (decide (s.is5 > 0)) (sl (s.is5==0) z (k ⟨s.is5,(Int.tmod s.is3 s.is5)⟩)) (e 1))
noncomputable def S7 (p:X5) (s:K0):Stp K0:=ba0 .next .exit .fail p s
noncomputable def Ia8:Lo X5 K0:=⟨En Oa5,0,re6,[1,1,0,1,4,4,1,1,0,4,1,1,1,4,4],[3,5,6,7,8],.p,[⟨(ru2 3 ((.s (.o (.int .i64)))::((.s (.o .unk))::((.s (.o (.int .i64)))::((.s (.c 1 (nL tI)))::((.s (.o (.int .i64)))::((.s (.o (.int .i64)))::(ru2 15 [])))))))),[],fun a H=>(⟨(rL tI (slT a 6)),(toI (slT a 7)),(toI (slT a 8))⟩,⟨(toI (slT a 3)),(toI (slT a 5))⟩)⟩],S7,[(some 2,fun p s=>⟨(ra 3 ((i s.is3)::(.unk::((i s.is5)::((eL tI p.Na0)::((i p.is7)::((i p.is8)::(ra 7 ((i s.is5)::((b (decide (s.is5 > 0)))::(ra 6 []))))))))))),[]⟩)],Vb4⟩
theorem Vb5:Ia8.Ok:=Lo.ok [] (by kernel_rfl) .nil rfl (.cons (fun a H=>by kernel_rfl) .nil) fun p s=>(.of @ba0 (fun F _ _ _ _ _=>by unfold ba0;(repeat' apply k8 (f:=F))<;>rfl) (by kernel_rfl))
structure ia1 where
 is7:Int
structure D8 where
 is3:Int
 Na0:List Int
 is8:Int
noncomputable def Vb6 (p:ia1) (s:D8):St:=⟨(ra 3 ((i s.is3)::(.unk::(.unk::((eL tI s.Na0)::((i p.is7)::((i s.is8)::(ra 15 [])))))))),[]⟩
noncomputable def ba1 {α:Type} (k:D8→α) (e:Nat→α) (z:α) (p:ia1) (s:D8):α:=let t1:=(S6 (gL tI s.Na0 s.is8.toNat));let t2:=(lp (S7 (⟨(rt tI s.Na0),p.is7,s.is8⟩:X5)) (⟨s.is3,t1⟩:K0));(sl (decide (s.is8 < p.is7)) (sl (inB s.is8 (List.length s.Na0)) (sl ((gL tI s.Na0 s.is8.toNat)==(-9223372036854775808)) (e 1) (sl ((cnE tI s.Na0)&&true) (sl (Nat.beq t2.1 1) (k ⟨t2.2.is3,(rt tI s.Na0),(W (s.is8+1))⟩) z) z)) z) (e 2))
noncomputable def ea4 (p:ia1) (s:D8):Stp D8:=ba1 .next .exit .fail p s
noncomputable def Ia9:Lo ia1 D8:=⟨En Oa5,0,re6,[1,1,0,1,4,4],[3,6,7,8],(.s .p (.s .p (.s (.b (.s .p (.s .p (.s .p (.b (.u Ia8.ls)))))) .p))),[⟨(ru2 3 ((.s (.o (.int .i64)))::((.s (.o .unk))::((.s (.o .unk))::((.s (.c 1 (nL tI)))::((.s (.o (.int .i64)))::((.s (.o (.int .i64)))::(ru2 15 [])))))))),[],fun a H=>(⟨(toI (slT a 7))⟩,⟨(toI (slT a 3)),(rL tI (slT a 6)),(toI (slT a 8))⟩)⟩],ea4,[(none,fun p s=>⟨[(i 0)],[]⟩),(some 0,fun p s=>⟨(ra 3 ((i s.is3)::(.unk::(.unk::((eL tI s.Na0)::((i p.is7)::((i s.is8)::((b (decide (s.is8 < p.is7)))::(ra 14 []))))))))),[]⟩)],Vb6⟩
theorem Vb7:Ia9.Ok:=Lo.ok [Ia8.pr] (by kernel_rfl) (.cons Vb5 .nil) rfl (.cons (fun a H=>by kernel_rfl) .nil) fun p s=>(.of @ba1 (fun F _ _ _ _ _=>by unfold ba1;(repeat' apply k8 (f:=F))<;>rfl) (by kernel_rfl))
noncomputable def pa7 (x:List Int):Option (b7×List c7):=let t1:=(lp (ea4 (⟨(↑(List.length x):Int)⟩:ia1)) (⟨0,(rt tI x),0⟩:D8));(sl ((cnE tI x)&&true) (sl (Nat.beq t1.1 1) (some ((i 0),[])) (sl (Nat.beq t1.1 2) (some ((i t1.2.is3),[])) none)) none)
noncomputable def Z5 (x:List Int):Int:=M4 (one r1I) (pa7 x)
noncomputable def Z6 (x:List Int):Bool:=okO (one r1I) (pa7 x)
noncomputable def Va4:Sum:=V6 (oa4 tI) (fun x=>.guard (Z6 x) (.ret ((one r1I).enc (Z5 x),[])))
theorem qb6:g9 prog G 186 Va4:=Ta2 (bd qf4 cc4) (one r1I) (o:=pa7) fun x=>xa9 (.s .p (.s .p (.s (.s .p (.b (.u Ia9.ls))) .p))) [Ia9.pr] (by kernel_rfl) (.cons Vb7 .nil) (by kernel_rfl)
noncomputable def Nc3:List (Nat×Sum):=[(138,Ia7),(186,Va4)]
theorem xc3:j9 prog G Nc3:=⟨Va3,qb6,trivial⟩
noncomputable def Aa4 (x:Pln):Option (b7×List c7):=let t1:=(L0 4608 [x.n.x,x.n.y,x.n.z]);let t2:=(Z5 [x.n.x,x.n.y,x.n.z]);let t3:=(L0 2097152 [x.b]);(sl (L1 4608 [x.n.x,x.n.y,x.n.z]) (sl t1 (sl (Z6 [x.n.x,x.n.y,x.n.z]) (sl (t2==1) (sl (L1 2097152 [x.b]) (some ((b t3),[])) none) (some ((b false),[]))) none) (some ((b false),[]))) none)
noncomputable def Aa5 (x:Pln):Bool:=M4 (one r1B) (Aa4 x)
noncomputable def Aa6 (x:Pln):Bool:=okO (one r1B) (Aa4 x)
noncomputable def mb6:Sum:=V6 (K9 tP) (fun x=>.guard (Aa6 x) (.ret ((one r1B).enc (Aa5 x),[])))
theorem Fb2:g9 prog G 140 mb6:=Ta2 (bd of1 xc3) (one r1B) (o:=Aa4) fun x=>A6 (by kernel_rfl)
structure Xc2 where
 i9:List Pln
structure Fc7 where
 i9:List Pln
 is7:Int
structure Fc8 where
 is8:Int
structure Xc3 where
 alt:Nat
 is0:Int
structure xc4 where
 i9:List Pln
structure xc5 where
 alt:Nat
 bs0:Bool
end Go.Ev.Ce
end
namespace Go.Proofs
open Go.Shelf
set_option maxRecDepth 100000 in
def Ce.growP_ren:Go.Shelf.Ren:=⟨fun | 4=>193 | n=>n,fun | 22=>24 | 25=>73 | 3=>3 | 4=>4 | 9=>9 | 20=>20 | 0=>0 | n=>n,fun | n=>n⟩
end Go.Proofs
namespace Go.Ev.Ce
open Go Go.Ev Go.Proofs
noncomputable def rf1:List b7:=[i 0,i 0,i 0,i 0]
theorem t25:Ce.growP_ren.t 25=73:=by kernel_rfl
theorem f4:Ce.growP_ren.f 4=193:=by kernel_rfl
end Go.Ev.Ce
section
namespace Go.Ev.Ce
open Go Go.Ev Go.Ev.L Go.Proofs
set_option maxRecDepth 100000
structure kd2 where
 Vd7:List (List Pln)
 tf4:List (List Pln)
 w4:Int
structure kd3 where
 is3:Int
 Md5:Int
structure kd4 where
 if7:List (List Pln)
 tf8:Int
structure kd5 where
 ph:Nat
 tf9:Int
 ns6:Nat
 eh0:List (List b7)
structure yd2 where
 alt:Nat
 ns0:Nat
 eh0:List (List b7)
structure Xc4 where
 Vd7:List (List Pln)
structure Fc9 where
 Vd7:List (List Pln)
 is7:Int
structure Gc0 where
 is8:Int
structure Xc5 where
 alt:Nat
 is0:Int
structure xc6 where
 Vd7:List (List Pln)
structure xc7 where
 alt:Nat
 bs0:Bool
structure sd1 where
 fa6:Int
 fa7:Int
 fa8:Int
 Wc8:Int
 d6:Int
 b8:Int
 d8:Int
 g8:Int
structure sd2 where
 bs0:Bool
structure ad3 where
 od0:List Pt
 d6:Int
 b8:Int
 d8:Int
 g8:Int
structure Nc4 where
 od0:List Pt
 is7:Int
 d6:Int
 b8:Int
 d8:Int
 g8:Int
structure Nc5 where
 is8:Int
structure ad4 where
 alt:Nat
 is0:Int
structure Gc1 where
 od0:List Pt
 d6:Int
 b8:Int
 d8:Int
 g8:Int
structure Gc2 where
 alt:Nat
 bs0:Bool
structure Fd5 where
 fa6:Int
 fa7:Int
 fa8:Int
 Wc8:Int
 da9:List Pt
structure Fd6 where
 alt:Nat
 bs0:Bool
structure Xc6 where
 i9:List Pln
 da9:List Pt
structure Gc3 where
 i9:List Pln
 is7:Int
structure Gc4 where
 is8:Int
 da9:List Pt
structure Xc7 where
 alt:Nat
 is0:Int
 da9:List Pt
structure xc8 where
 i9:List Pln
 da9:List Pt
structure xc9 where
 alt:Nat
 bs0:Bool
 da9:List Pt
structure re9 where
 tf5:List Pt
 tc5:Int
structure se0 where
 Ze3:Int
 Ma7:Int
 Ma8:Int
 Ma9:Int
 if8:Int
 if9:Int
 jf0:Int
end Go.Ev.Ce
end
section
namespace Go.Ev.Ce
open Go Go.Ev Go.Ev.L Go.Proofs
set_option maxRecDepth 100000
structure Ae9 where
 fa6:Int
 fa7:Int
 fa8:Int
 Wc8:Int
 da9:List Pt
structure le1 where
 tf6:List Pt
 is8:Int
 da9:List Pt
 F6:Int
 F7:Int
 F8:Int
 Na1:Int
structure le2 where
 is4:Int
 is9:Int
structure Be0 where
 alt:Nat
 bs0:Bool
 da9:List Pt
structure Xc8 where
 ns0:Nat
 eh0:List (List b7)
 tb1:List Pt
structure Gc5 where
 ns0:Nat
 is7:Int
 eh0:List (List b7)
structure Gc6 where
 is8:Int
 tb1:List Pt
structure Xc9 where
 alt:Nat
 is0:Int
 tb1:List Pt
structure Yc0 where
 ns0:Nat
 eh0:List (List b7)
 tb1:List Pt
structure Gc7 where
 ns0:Nat
structure Gc8 where
 is5:Int
 is6:Int
 eh0:List (List b7)
 tb1:List Pt
structure Yc1 where
 alt:Nat
 ns0:Nat
 eh0:List (List b7)
 tb1:List Pt
structure sd3 where
 ns0:Nat
 eh0:List (List b7)
structure ad5 where
 ns0:Nat
 os4:Nat
 ns4:Nat
structure ad6 where
 is3:Int
 is5:Int
 eh0:List (List b7)
structure ad7 where
 ns0:Nat
 eh0:List (List b7)
structure ad8 where
 is3:Int
structure sd4 where
 alt:Nat
 ns0:Nat
 eh0:List (List b7)
noncomputable def Nc6:List (Nat×Sum):=[]
theorem yc0:j9 prog G Nc6:=trivial
noncomputable def Aa7 (x:Int) (y:Int):Option (b7×List c7):=(sl (decide (x < y)) (some ((i (-1)),[])) (sl (decide (x > y)) (some ((i 1),[])) (some ((i 0),[]))))
noncomputable def ca6 (x:Int) (y:Int):Int:=M4 (one r1I) (Aa7 x y)
noncomputable def ca7 (x:Int) (y:Int):Bool:=okO (one r1I) (Aa7 x y)
noncomputable def mb7:Sum:=ga1 cI cI (fun x y=>.guard (ca7 x y) (.ret ((one r1I).enc (ca6 x y),[])))
theorem Fb3:g9 prog G 141 mb7:=Oa2 (bd of2 yc0) (one r1I) (o:=Aa7) fun x y=>A6 (by kernel_rfl)
noncomputable def lc2:List (Nat×Sum):=[(141,mb7)]
theorem cc5:j9 prog G lc2:=⟨Fb3,trivial⟩
noncomputable def pa8 (x:Pln) (y:Pln):Option (b7×List c7):=let t1:=(ca6 x.n.x y.n.x);let t2:=(ca6 x.n.y y.n.y);let t3:=(ca6 x.n.z y.n.z);let t4:=(ca6 x.b y.b);(sl (ca7 x.n.x y.n.x) (sl (t1==0) (sl (ca7 x.n.y y.n.y) (sl (t2==0) (sl (ca7 x.n.z y.n.z) (sl (t3==0) (sl (ca7 x.b y.b) (sl (t4==0) (some ((i t4),[])) (some ((i t4),[]))) none) (some ((i t3),[]))) none) (some ((i t2),[]))) none) (some ((i t1),[]))) none)
noncomputable def Da1 (x:Pln) (y:Pln):Int:=M4 (one r1I) (pa8 x y)
noncomputable def Da2 (x:Pln) (y:Pln):Bool:=okO (one r1I) (pa8 x y)
noncomputable def Va5:Sum:=ga1 (K9 tP) (K9 tP) (fun x y=>.guard (Da2 x y) (.ret ((one r1I).enc (Da1 x y),[])))
theorem lc3:g9 prog G 122 Va5:=Oa2 (bd mf5 cc5) (one r1I) (o:=pa8) fun x y=>A6 (by kernel_rfl)
noncomputable def Fd7:List (Nat×Sum):=[(138,Ia7)]
theorem sd5:j9 prog G Fd7:=⟨Va3,trivial⟩
noncomputable def db5 (x:V3):Option (b7×List c7):=let t1:=(L0 24 [x.x,x.y,x.z]);(sl (L1 24 [x.x,x.y,x.z]) (some ((b t1),[])) none)
noncomputable def ua9 (x:V3):Bool:=M4 (one r1B) (db5 x)
noncomputable def va0 (x:V3):Bool:=okO (one r1B) (db5 x)
noncomputable def vb9:Sum:=V6 (K9 tV) (fun x=>.guard (va0 x) (.ret ((one r1B).enc (ua9 x),[])))
theorem Fb4:g9 prog G 85 vb9:=Ta2 (bd b85 sd5) (one r1B) (o:=db5) fun x=>A6 (by kernel_rfl)
structure le3 where
 fa6:Int
 fa7:Int
 fa8:Int
 Wc8:Int
 s8:List Pln
structure le4 where
 alt:Nat
 bs0:Bool
structure Yc2 where
 od0:List Pt
 s8:List Pln
structure Gc9 where
 od0:List Pt
 is7:Int
structure Hc0 where
 is8:Int
 s8:List Pln
structure Yc3 where
 alt:Nat
 is0:Int
 s8:List Pln
structure yc1 where
 od0:List Pt
 s8:List Pln
structure yc2 where
 alt:Nat
 bs0:Bool
 s8:List Pln
structure Ue4 where
 g8:Int
 jf1:Int
 jf2:Int
 jf3:Int
 jf4:Int
 jf5:Int
end Go.Ev.Ce
end
namespace Go.Proofs
open Go.Shelf
set_option maxRecDepth 100000 in
def Ce.sortLay_ren:Go.Shelf.Ren:=⟨fun | 6=>121 | 15=>180 | 14=>179 | 28=>207 | 29=>208 | 20=>199 | 21=>200 | 22=>201 | 23=>202 | 24=>203 | 25=>204 | 26=>205 | 27=>206 | 46=>223 | 47=>224 | 48=>225 | 49=>226 | 50=>227 | 57=>233 | n=>n,fun | 22=>24 | 24=>73 | 25=>148 | 3=>3 | 39=>173 | 0=>0 | 53=>197 | 55=>199 | 4=>4 | 46=>191 | 45=>190 | 50=>50 | 5=>5 | 9=>9 | 66=>210 | 70=>214 | 76=>218 | 77=>219 | n=>n,fun | n=>n⟩
set_option maxRecDepth 100000 in
theorem Ce.sortLay:Go.Proofs.SlLaysF0.n6 Tryz.prog Ce.sortLay_ren:={
 mixed:=by kernel_rfl
 f6:=⟨Tryz.f121.name,by decide,Tryz.func121.trans (congrArg some (by kernel_rfl))⟩
 f14:=⟨Tryz.f179.name,by decide,Tryz.func179.trans (congrArg some (by kernel_rfl))⟩
 f15:=Tryz.func180.trans (congrArg some (by kernel_rfl))
 f20:=⟨Tryz.f199.name,by decide,Tryz.func199.trans (congrArg some (by kernel_rfl))⟩
 f21:=⟨Tryz.f200.name,by decide,Tryz.func200.trans (congrArg some (by kernel_rfl))⟩
 f22:=⟨Tryz.f201.name,by decide,Tryz.func201.trans (congrArg some (by kernel_rfl))⟩
 f23:=⟨Tryz.f202.name,by decide,Tryz.func202.trans (congrArg some (by kernel_rfl))⟩
 f24:=⟨Tryz.f203.name,by decide,Tryz.func203.trans (congrArg some (by kernel_rfl))⟩
 f25:=⟨Tryz.f204.name,by decide,Tryz.func204.trans (congrArg some (by kernel_rfl))⟩
 f26:=⟨Tryz.f205.name,by decide,Tryz.func205.trans (congrArg some (by kernel_rfl))⟩
 f27:=⟨Tryz.f206.name,by decide,Tryz.func206.trans (congrArg some (by kernel_rfl))⟩
 f28:=Tryz.func207.trans (congrArg some (by kernel_rfl))
 f29:=Tryz.func208.trans (congrArg some (by kernel_rfl))
 f46:=⟨Tryz.f223.name,by decide,Tryz.func223.trans (congrArg some (by kernel_rfl))⟩
 f47:=Tryz.func224.trans (congrArg some (by kernel_rfl))
 f48:=Tryz.func225.trans (congrArg some (by kernel_rfl))
 f49:=⟨Tryz.f226.name,by decide,Tryz.func226.trans (congrArg some (by kernel_rfl))⟩
 f50:=⟨Tryz.f227.name,by decide,Tryz.func227.trans (congrArg some (by kernel_rfl))⟩
 f57:=⟨Tryz.f233.name,by decide,Tryz.func233.trans (congrArg some (by kernel_rfl))⟩
 t0:=Tryz.underlying0
 a0:=Tryz.isAgg0
 z0:=Tryz.sizeOf0
 v0:=Tryz.zeroValue0
 t3:=Tryz.underlying3
 a3:=Tryz.isAgg3
 z3:=Tryz.sizeOf3
 v3:=Tryz.zeroValue3
 t4:=Tryz.underlying4
 a4:=Tryz.isAgg4
 z4:=Tryz.sizeOf4
 v4:=Tryz.zeroValue4
 t5:=Tryz.underlying5
 a5:=Tryz.isAgg5
 z5:=Tryz.sizeOf5
 v5:=Tryz.zeroValue5
 t9:=Tryz.underlying9
 a9:=Tryz.isAgg9
 z9:=Tryz.sizeOf9
 v9:=Tryz.zeroValue9
 t22:=Tryz.underlying24
 a22:=Tryz.isAgg24
 z22:=Tryz.sizeOf24
 v22:=Tryz.zeroValue24
 t25:=Tryz.underlying148
 a25:=Tryz.isAgg148
 z25:=Tryz.sizeOf148
 v25:=Tryz.zeroValue148
 t39:=Tryz.underlying173
 a39:=Tryz.isAgg173
 z39:=Tryz.sizeOf173
 v39:=Tryz.zeroValue173
 t45:=Tryz.underlying190
 a45:=Tryz.isAgg190
 z45:=Tryz.sizeOf190
 v45:=Tryz.zeroValue190
 t46:=Tryz.underlying191
 a46:=Tryz.isAgg191
 z46:=Tryz.sizeOf191
 v46:=Tryz.zeroValue191
 t50:=Tryz.underlying50
 a50:=Tryz.isAgg50
 z50:=Tryz.sizeOf50
 v50:=Tryz.zeroValue50
 t53:=Tryz.underlying197
 a53:=Tryz.isAgg197
 z53:=Tryz.sizeOf197
 v53:=Tryz.zeroValue197
 t55:=Tryz.underlying199
 a55:=Tryz.isAgg199
 z55:=Tryz.sizeOf199
 v55:=Tryz.zeroValue199
 t66:=Tryz.underlying210
 a66:=Tryz.isAgg210
 z66:=Tryz.sizeOf210
 v66:=Tryz.zeroValue210
 t70:=Tryz.underlying214
 a70:=Tryz.isAgg214
 z70:=Tryz.sizeOf214
 v70:=Tryz.zeroValue214
 t76:=Tryz.underlying218
 a76:=Tryz.isAgg218
 z76:=Tryz.sizeOf218
 v76:=Tryz.zeroValue218
 t77:=Tryz.underlying219
 a77:=Tryz.isAgg219
 z77:=Tryz.sizeOf219
 v77:=Tryz.zeroValue219 }
end Go.Proofs
namespace Go.Ev.Ce
open Go Go.Ev Go.Ev.L Go.Proofs Go.Sort
def Ha6 (x y:Int):Int:=if x < y then -1 else if x > y then 1 else 0
def ia2 (x y:Pln):Int :=
 if Ha6 x.n.x y.n.x=0 then if Ha6 x.n.y y.n.y=0 then if Ha6 x.n.z y.n.z=0 then Ha6 x.b y.b else Ha6 x.n.z y.n.z else Ha6 x.n.y y.n.y else Ha6 x.n.x y.n.x
theorem wb0 (x y:Int):Ha6 x y < 0↔x < y:=by unfold Ha6;split<;>(try split)<;>omega
theorem cc6 (x y:Int):Ha6 x y=0↔x=y:=by unfold Ha6;split<;>(try split)<;>omega
def LtP (x y:Pln):Prop:=x.n.x < y.n.x∨x.n.x=y.n.x∧(x.n.y < y.n.y∨x.n.y=y.n.y∧(x.n.z < y.n.z∨x.n.z=y.n.z∧x.b < y.b))
instance (x y:Pln):Decidable (LtP x y):=by unfold LtP;exact inferInstance
theorem sd6 (x y:Pln):ia2 x y < 0↔LtP x y:=by
 have h1:=wb0 x.n.x y.n.x;have h2:=cc6 x.n.x y.n.x
 have h3:=wb0 x.n.y y.n.y;have h4:=cc6 x.n.y y.n.y
 have h5:=wb0 x.n.z y.n.z;have h6:=cc6 x.n.z y.n.z
 have h7:=wb0 x.b y.b
 unfold ia2 LtP
 split
 ·split
  ·split<;>omega
  ·omega
 ·omega
theorem Oa6 (x y:Pln):ltOf ia2 x y=decide (LtP x y):=by
 unfold ltOf
 rw[decide_eq_decide]
 exact sd6 x y
theorem ff3:SWO (ltOf ia2) where
 irrefl x:=by rw[Oa6];simp[LtP]
 trans x y z h1 h2:=by rw[Oa6,decide_eq_true_eq] at *;unfold LtP at *;omega
 ntrans x y z h1 h2:=by rw[Oa6,decide_eq_false_iff_not] at *;unfold LtP at *;omega
theorem rf2 (x y:Pln) (h1:ltOf ia2 x y=false) (h2:ltOf ia2 y x=false):x=y:=by
 rw[Oa6,decide_eq_false_iff_not] at *
 unfold LtP at *
 obtain⟨⟨a,b,c⟩,d⟩:=x;obtain⟨⟨a',b',c'⟩,d'⟩:=y
 simp only at *
 have:a=a'∧b=b'∧c=c'∧d=d':=by omega
 obtain⟨rfl,rfl,rfl,rfl⟩:=this
 rfl
theorem Fd8 (x y:Int):Aa7 x y=some (i (Ha6 x y),[]):=by
 unfold Aa7 Ha6
 simp only[Ub7,decide_eq_true_eq]
 split<;>(try split)<;>rfl
theorem Zd0 (x y:Int):ca6 x y=Ha6 x y:=by unfold ca6;rw[Fd8];rfl
theorem Zd1 (x y:Int):ca7 x y=true:=by unfold ca7;rw[Fd8];rfl
theorem Nc7 (x y:Pln):pa8 x y=some (i (ia2 x y),[]):=by
 unfold pa8 ia2
 simp only[Zd0,Zd1,Ub7,beq_iff_eq,if_true]
 repeat' (first | rfl | split)
theorem ff4 (x y:Pln):Da1 x y=ia2 x y:=by unfold Da1;rw[Nc7];rfl
theorem ff5 (x y:Pln):Da2 x y=true:=by unfold Da2;rw[Nc7];rfl
theorem ff6 (x y:Pln):(Va5 [.agg (tP.row x),.agg (tP.row y)] []).run=some (i (ia2 x y),[]):=by
 have:(Va5 [.agg (tP.row x),.agg (tP.row y)] []).run=sel (Da2 x y) (some (i (Da1 x y),[])) none:=by kernel_rfl
 rw[this,ff5,ff4]
def kc5 (p:Pln):List Value:=[.int .i64 p.n.x,.int .i64 p.n.y,.int .i64 p.n.z,.int .i64 p.b]
instance:Inhabited Pln:=⟨⟨⟨0,0,0⟩,0⟩⟩
def Qb8 (l:List Pln):List Pln:=l.mergeSort fun x y=>!ltOf ia2 y x
theorem Mb4 (l:List Pln):(Qb8 l).length=l.length:=List.length_mergeSort l
noncomputable def Ga9:Sum:=Yd3 tP 122 73 Qb8
theorem se1:Ce.sortLay_ren.f 6=121:=by kernel_rfl
theorem kd6:Ce.sortLay_ren.t 24=73:=by kernel_rfl
set_option maxRecDepth 100000 in
theorem mb8:g9 prog G 121 Ga9:=by
 refine Yd4 (enc:=kc5) (cf:=ia2) ⟨_,Tryz.func121,by kernel_rfl,of_decide_eq_true (by kernel_rfl)⟩ (by decide) (fun _=>rfl) (fun r h=>bb2 (n:=4) h) (fun x v hv=>?_) Mb4
  (fun blk off size w=>Yd2 lc3 ff6 (fun _=>rfl) (fun _=>rfl) _ _ _ _ _) (fun blk cap d w hcl hH hb hs=>?_)
 ·simp[kc5] at hv
  rcases hv with rfl | rfl | rfl | rfl<;>rfl
 ·have eg:∀ args w,(callFunc 122 args).run Tryz.prog w=.ok (.enter 122 args) w:=enters_of Tryz.func122 (by kernel_rfl) rfl
  have:=AnyQ.slices_SortFunc Ce.sortLay 4 (by rw[kd6];exact Tryz.isAgg73) (by rw[kd6];exact Tryz.sizeOf73) kc5 (fun _=>rfl) (fun x v hv=>by simp[kc5] at hv;rcases hv with rfl | rfl | rfl | rfl<;>rfl) ia2 ff3 122 #[] blk 0 cap d w eg (hcl 0 d.size) hH hb hs
  rw[se1] at this
  refine this.mono fun e w' ⟨h1,d',n,os,h2,h3,h4⟩=>⟨h1,n,os,?_⟩
  have h5:=sorted_unique_holds ff3 rf2 d d' h2 h3
  rw[h4]
  show _=sortWorldK kc5 4 w blk 0 n (d.toList.mergeSort fun x y=>!ltOf ia2 y x).toArray os
  rw[← h5]
end Go.Ev.Ce
section
namespace Go.Ev.Ce
open Go Go.Ev Go.Ev.L Go.Proofs
set_option maxRecDepth 100000
structure Da3 where
 is1:Int
 f9:List Int
 b8:Int
noncomputable def lc4:List (Nat×Sum):=[(27,kc8)]
theorem cc7:j9 prog G lc4:=⟨Nc1,trivial⟩
structure Da4 where
 alt:Nat
 is0:Int
 b8:Int
noncomputable def ha0 {α:Type} (kk:Da4→α) (x:Da3):α:=let t1:=(bb3 (gL tI x.f9 (W ((W (x.b8+1)) - 1)).toNat) x.is1);(sl (decide (x.b8≥(↑(List.length x.f9):Int))) (kk ⟨1,0,x.b8⟩) (sl (inB (W ((W (x.b8+1)) - 1)) (List.length x.f9)) (sl (qb3 (gL tI x.f9 (W ((W (x.b8+1)) - 1)).toNat) x.is1) (kk ⟨1,t1,(W (x.b8+1))⟩) (kk ⟨0,0,0⟩)) (kk ⟨0,0,0⟩)))
noncomputable def p4 (x:Da3):Da4:=ha0 (fun r=>r) x
noncomputable def Oa7 (x:Da3) (r:Da4):DT (b7×List c7):=(.ite (Nat.beq r.alt 1) (.ret ((i r.is0),[⟨0,2,[[(eL tI x.f9),(i r.b8)]],true,false,0⟩])) .fail)
theorem yc3 {α β:Type} (F:α→β) (kk:Da4→α) (x:Da3):F (ha0 kk x)=ha0 (fun r=>F (kk r)) x:=by unfold ha0;(repeat' apply k8 (f:=F))<;>rfl
noncomputable def Da5:Sum:=mb4 ⟨[(.s (.o (.ptr 0 0 0 0))),(.s (.o (.int .i64)))],[⟨0,2,true,(some [[(.c 1 (nL tI)),(.o (.int .i64))]])⟩],fun a H=>(⟨(toI (slT a 1)),(rL tI (slT (rwT (elT H 0) 0) 0)),(toI (slT (rwT (elT H 0) 0) 1))⟩,())⟩ (fun x=>Oa7 x (p4 x))
theorem Oa8:g9 prog G 68 Da5:=X4 (enc:=fun x=>⟨[(.ptr 0 0 0 0),(i x.is1)],[⟨0,2,[[(eL tI x.f9),(i x.b8)]],true,false,0⟩]⟩) (fun a H=>by kernel_rfl) (bd b68 cc7) fun x=>A6 (Eq.trans (b:=ha0 (fun r=>(Oa7 x r).run) x) (by kernel_rfl) (yc3 (fun r=>(Oa7 x r).run) (fun r=>r) x).symm)
structure Mb5 where
 is1:Int
 f9:List Int
 b8:Int
noncomputable def Rd9:List (Nat×Sum):=[(68,Da5)]
theorem Fd9:j9 prog G Rd9:=⟨Oa8,trivial⟩
structure Mb6 where
 alt:Nat
 fa6:Int
 fa7:Int
 fa8:Int
 f9:List Int
 b8:Int
noncomputable def bb4 {α:Type} (kk:Mb6→α) (x:Mb5):α:=let t1:=(p4 ⟨(W ((W (2*x.is1))+1)),(rt tI x.f9),x.b8⟩);let t2:=(p4 ⟨(W ((W (2*x.is1))+1)),(rt tI (rt tI x.f9)),t1.b8⟩);let t3:=(p4 ⟨(W ((W (2*x.is1))+1)),(rt tI (rt tI (rt tI x.f9))),t2.b8⟩);(sl ((cnE tI x.f9)&&true) (sl (Nat.beq t1.alt 1) (sl ((cnE tI (rt tI x.f9))&&true) (sl (Nat.beq t2.alt 1) (sl ((cnE tI (rt tI (rt tI x.f9)))&&true) (sl (Nat.beq t3.alt 1) (kk ⟨1,(W (t1.is0 - x.is1)),(W (t2.is0 - x.is1)),(W (t3.is0 - x.is1)),(rt tI (rt tI (rt tI x.f9))),t3.b8⟩) (kk ⟨0,0,0,0,[],0⟩)) (kk ⟨0,0,0,0,[],0⟩)) (kk ⟨0,0,0,0,[],0⟩)) (kk ⟨0,0,0,0,[],0⟩)) (kk ⟨0,0,0,0,[],0⟩)) (kk ⟨0,0,0,0,[],0⟩))
noncomputable def qb7 (x:Mb5):Mb6:=bb4 (fun r=>r) x
noncomputable def Vb8 (x:Mb5) (r:Mb6):DT (b7×List c7):=(.ite (Nat.beq r.alt 1) (.ret ((.agg [(i r.fa6),(i r.fa7),(i r.fa8)]),[⟨0,2,[[(eL tI r.f9),(i r.b8)]],true,false,0⟩])) .fail)
theorem he4 {α β:Type} (F:α→β) (kk:Mb6→α) (x:Mb5):F (bb4 kk x)=bb4 (fun r=>F (kk r)) x:=by unfold bb4;(repeat' apply k8 (f:=F))<;>rfl
noncomputable def kd7:Sum:=mb4 ⟨[(.s (.o (.ptr 0 0 0 0))),(.s (.o (.int .i64)))],[⟨0,2,true,(some [[(.c 1 (nL tI)),(.o (.int .i64))]])⟩],fun a H=>(⟨(toI (slT a 1)),(rL tI (slT (rwT (elT H 0) 0) 0)),(toI (slT (rwT (elT H 0) 0) 1))⟩,())⟩ (fun x=>Vb8 x (qb7 x))
theorem Sd0:g9 prog G 69 kd7:=X4 (enc:=fun x=>⟨[(.ptr 0 0 0 0),(i x.is1)],[⟨0,2,[[(eL tI x.f9),(i x.b8)]],true,false,0⟩]⟩) (fun a H=>by kernel_rfl) (bd b69 Fd9) fun x=>A6 (Eq.trans (b:=bb4 (fun r=>(Vb8 x r).run) x) (by kernel_rfl) (he4 (fun r=>(Vb8 x r).run) (fun r=>r) x).symm)
noncomputable def Sd1:List (Nat×Sum):=[]
theorem Gd0:j9 prog G Sd1:=trivial
noncomputable def ya1 (x:V3) (y:V3):V3:=(⟨(W (x.x - y.x)),(W (x.y - y.y)),(W (x.z - y.z))⟩:V3)
noncomputable def lc5:Sum:=ga1 (K9 tV) (K9 tV) (fun x y=>.ret ((one r1V).enc (ya1 x y),[]))
theorem Nc8:g9 prog G 128 lc5:=Da0 (bd mf9 Gd0) fun x y=>A6 (by kernel_rfl)
noncomputable def he5:List (Nat×Sum):=[(191,ya0)]
theorem Sd2:j9 prog G he5:=⟨Ia6,trivial⟩
noncomputable def Fb5 (x:V3):Option (b7×List c7):=(sl (decide (x.x < (-24))) (some ((b false),[])) (sl (decide (x.x > 24)) (some ((b false),[])) (sl (decide (x.y < (-24))) (some ((b false),[])) (sl (decide (x.y > 24)) (some ((b false),[])) (sl (decide (x.z < (-24))) (some ((b false),[])) (sl (decide (x.z > 24)) (some ((b false),[])) (some ((b true),[]))))))))
noncomputable def Ta5 (x:V3):Bool:=M4 (one r1B) (Fb5 x)
noncomputable def Ta6 (x:V3):Bool:=okO (one r1B) (Fb5 x)
noncomputable def cc8:Sum:=V6 (K9 tV) (fun x=>.guard (Ta6 x) (.ret ((one r1B).enc (Ta5 x),[])))
theorem lc6:g9 prog G 162 cc8:=Ta2 (bd of9 Sd2) (one r1B) (o:=Fb5) fun x=>A6 (by kernel_rfl)
noncomputable def Nc9:List (Nat×Sum):=[(162,cc8),(128,lc5),(164,Eb9),(163,Vb2),(84,qb1)]
theorem yc4:j9 prog G Nc9:=⟨lc6,Nc8,bc8,uc6,vb7,trivial⟩
noncomputable def Aa8 (x:V3) (y:V3) (z:V3):Option (b7×List c7):=let t1:=(Ta5 x);let t2:=(Ta5 y);let t3:=(Ta5 z);let t4:=(ya1 y x);let t5:=(ya1 z x);let t6:=(ua5 t4 t5);let t7:=(Fa8 t6);let t8:=(da2 t7.1 x);(sl (Ta6 x) (sl (!t1) (some ((.tup [(.agg [(i 0),(i 0),(i 0),(i 0)]),(b false)]),[])) (sl (Ta6 y) (sl (!t2) (some ((.tup [(.agg [(i 0),(i 0),(i 0),(i 0)]),(b false)]),[])) (sl (Ta6 z) (sl (!t3) (some ((.tup [(.agg [(i 0),(i 0),(i 0),(i 0)]),(b false)]),[])) (sl (db4 t6) (sl (t7.2==0) (some ((.tup [(.agg [(i 0),(i 0),(i 0),(i 0)]),(b false)]),[])) (some ((.tup [(.agg [(i t7.1.x),(i t7.1.y),(i t7.1.z),(i t8)]),(b true)]),[]))) none)) none)) none)) none)
noncomputable def sa0 (x:V3) (y:V3) (z:V3):Pln×Bool:=M4 (two r1P r1B) (Aa8 x y z)
noncomputable def sa1 (x:V3) (y:V3) (z:V3):Bool:=okO (two r1P r1B) (Aa8 x y z)
noncomputable def mb9:Sum:=wc7 (K9 tV) (K9 tV) (K9 tV) (fun x y z=>.guard (sa1 x y z) (.ret ((two r1P r1B).enc (sa0 x y z),[])))
theorem Fb6:g9 prog G 107 mb9:=Se3 (bd mf0 yc4) (two r1P r1B) (o:=Aa8) fun x y z=>A6 (by kernel_rfl)
noncomputable def Gd1:List (Nat×Sum):=[(128,lc5)]
theorem sd7:j9 prog G Gd1:=⟨Nc8,trivial⟩
noncomputable def Oa9 (x:Pln):Pln:=let t1:=(ya1 (⟨0,0,0⟩:V3) x.n);(⟨t1,(W (0 - x.b))⟩:Pln)
noncomputable def Oc0:Sum:=V6 (K9 tP) (fun x=>.ret ((one r1P).enc (Oa9 x),[]))
theorem Gd2:g9 prog G 73 Oc0:=vb1 (bd b73 sd7) fun x=>A6 (by kernel_rfl)
noncomputable def Gd3:List (Nat×Sum):=[(156,uc7),(162,cc8),(84,qb1)]
theorem sd8:j9 prog G Gd3:=⟨rd7,lc6,vb7,trivial⟩
noncomputable def Fa9 (x:Pln) (y:V3):Option (b7×List c7):=let t1:=(kb0 x);let t2:=(Ta5 y);let t3:=(da2 x.n y);(sl (kb1 x) (sl (!t1) (some ((i 0),[])) (sl (Ta6 y) (sl (!t2) (some ((i 0),[])) (sl (decide ((W (t3 - x.b)) < 0)) (some ((i (-1)),[])) (sl (decide ((W (t3 - x.b)) > 0)) (some ((i 1),[])) (some ((i 0),[]))))) none)) none)
noncomputable def va1 (x:Pln) (y:V3):Int:=M4 (one r1I) (Fa9 x y)
noncomputable def Pa0 (x:Pln) (y:V3):Bool:=okO (one r1I) (Fa9 x y)
noncomputable def wb1:Sum:=ga1 (K9 tP) (K9 tV) (fun x y=>.guard (Pa0 x y) (.ret ((one r1I).enc (va1 x y),[])))
theorem Fb7:g9 prog G 135 wb1:=Oa2 (bd nf6 sd8) (one r1I) (o:=Fa9) fun x y=>A6 (by kernel_rfl)
noncomputable def Fb8:List (Nat×Sum):=[]
theorem yc5:j9 prog G Fb8:=trivial
structure pa9 where
 d6:Int
 b8:Int
 d8:Int
 g8:Int
 F6:Int
 F7:Int
 F8:Int
 Na1:Int
structure M0 where
 is7:Int
noncomputable def lc7 (p:pa9) (s:M0):St:=⟨(ra 5 ((.ptr 0 0 0 0)::((.ptr 1 0 0 0)::((i s.is7)::(ra 42 []))))),[⟨0,4,[[(i p.d6),(i p.b8),(i p.d8),(i p.g8)]],true,false,0⟩,⟨0,4,[[(i p.F6),(i p.F7),(i p.F8),(i p.Na1)]],true,false,0⟩]⟩
noncomputable def N8 {α:Type} (k:M0→α) (e:Nat→α) (z:α) (p:pa9) (s:M0):α:=(sl (decide (s.is7 < 4)) (sl (inB s.is7 4) (sl ((Nat.ble ((0+(s.is7.toNat*1))+1) 4)&&(K6 [(CK.int .i64)] (d9 [(i p.d6),(i p.b8),(i p.d8),(i p.g8)] (0+(s.is7.toNat*1))))) (sl (inB s.is7 4) (sl ((Nat.ble ((0+(s.is7.toNat*1))+1) 4)&&(K6 [(CK.int .i64)] (d9 [(i p.F6),(i p.F7),(i p.F8),(i p.Na1)] (0+(s.is7.toNat*1))))) (sl (decide ((toI (hdA (d9 [(i p.d6),(i p.b8),(i p.d8),(i p.g8)] (0+(s.is7.toNat*1))))) < (toI (hdA (d9 [(i p.F6),(i p.F7),(i p.F8),(i p.Na1)] (0+(s.is7.toNat*1))))))) (e 1) (sl (inB s.is7 4) (sl ((Nat.ble ((0+(s.is7.toNat*1))+1) 4)&&(K6 [(CK.int .i64)] (d9 [(i p.d6),(i p.b8),(i p.d8),(i p.g8)] (0+(s.is7.toNat*1))))) (sl (inB s.is7 4) (sl ((Nat.ble ((0+(s.is7.toNat*1))+1) 4)&&(K6 [(CK.int .i64)] (d9 [(i p.F6),(i p.F7),(i p.F8),(i p.Na1)] (0+(s.is7.toNat*1))))) (sl (decide ((toI (hdA (d9 [(i p.d6),(i p.b8),(i p.d8),(i p.g8)] (0+(s.is7.toNat*1))))) > (toI (hdA (d9 [(i p.F6),(i p.F7),(i p.F8),(i p.Na1)] (0+(s.is7.toNat*1))))))) (e 2) (k ⟨(W (s.is7+1))⟩)) z) z) z) z)) z) z) z) z) (e 3))
noncomputable def D5 (p:pa9) (s:M0):Stp M0:=N8 .next .exit .fail p s
noncomputable def Va6:Lo pa9 M0:=⟨En Fb8,0,Oe8,[1,1,1,0,1,4,4],[5,6,7],.p,[⟨(ru2 5 ((.s (.o (.ptr 0 0 0 0)))::((.s (.o (.ptr 1 0 0 0)))::((.s (.o (.int .i64)))::(ru2 42 []))))),[⟨0,4,true,(some [[(.o (.int .i64)),(.o (.int .i64)),(.o (.int .i64)),(.o (.int .i64))]])⟩,⟨0,4,true,(some [[(.o (.int .i64)),(.o (.int .i64)),(.o (.int .i64)),(.o (.int .i64))]])⟩],fun a H=>(⟨(toI (slT (rwT (elT H 0) 0) 0)),(toI (slT (rwT (elT H 0) 0) 1)),(toI (slT (rwT (elT H 0) 0) 2)),(toI (slT (rwT (elT H 0) 0) 3)),(toI (slT (rwT (elT H 1) 0) 0)),(toI (slT (rwT (elT H 1) 0) 1)),(toI (slT (rwT (elT H 1) 0) 2)),(toI (slT (rwT (elT H 1) 0) 3))⟩,⟨(toI (slT a 7))⟩)⟩],D5,[(none,fun p s=>⟨[(i (-1))],[]⟩),(none,fun p s=>⟨[(i 1)],[]⟩),(some 0,fun p s=>⟨(ra 5 ((.ptr 0 0 0 0)::((.ptr 1 0 0 0)::((i s.is7)::(ra 24 ((i s.is7)::((b (decide (s.is7 < 4)))::(ra 16 [])))))))),[⟨0,4,[[(i p.d6),(i p.b8),(i p.d8),(i p.g8)]],true,false,0⟩,⟨0,4,[[(i p.F6),(i p.F7),(i p.F8),(i p.Na1)]],true,false,0⟩]⟩)],lc7⟩
theorem lc8:Va6.Ok:=Lo.ok [] (by kernel_rfl) .nil rfl (.cons (fun a H=>by kernel_rfl) .nil) fun p s=>(.of @N8 (fun F _ _ _ _ _=>by unfold N8;(repeat' apply k8 (f:=F))<;>rfl) (by kernel_rfl))
noncomputable def ka1 (x:Pln) (y:Pln):Option (b7×List c7):=let t1:=(lp (D5 (⟨x.n.x,x.n.y,x.n.z,x.b,y.n.x,y.n.y,y.n.z,y.b⟩:pa9)) (⟨0⟩:M0));(sl (Nat.beq t1.1 1) (some ((i (-1)),[])) (sl (Nat.beq t1.1 2) (some ((i 1),[])) (sl (Nat.beq t1.1 3) (some ((i 0),[])) none)))
noncomputable def ka2 (x:Pln) (y:Pln):Int:=M4 (one r1I) (ka1 x y)
noncomputable def nb0 (x:Pln) (y:Pln):Bool:=okO (one r1I) (ka1 x y)
noncomputable def Qb9:Sum:=ga1 (K9 tP) (K9 tP) (fun x y=>.guard (nb0 x y) (.ret ((one r1I).enc (ka2 x y),[])))
theorem Oc1:g9 prog G 182 Qb9:=Oa2 (bd qf0 yc5) (one r1I) (o:=ka1) fun x y=>xa9 (.s .p (.s .p (.s .p (.s (.s .p (.b (.u Va6.ls))) .p)))) [Va6.pr] (by kernel_rfl) (.cons lc8 .nil) (by kernel_rfl)
end Go.Ev.Ce
end
section
namespace Go.Ev.Ce
open Go Go.Ev Go.Ev.L Go.Proofs
set_option maxRecDepth 100000
noncomputable def Ta7:List (Nat×Sum):=[(107,mb9),(135,wb1)]
theorem sd9:j9 prog G Ta7:=⟨Fb6,Fb7,trivial⟩
structure oa5 where
 c8:List V3
 is3:Int
 is4:Int
 is5:Int
 bs7:Bool
 d6:Int
 b8:Int
 d8:Int
 g8:Int
structure ba5 where
 is8:Int
noncomputable def ad9 (p:oa5) (s:ba5):St:=⟨((eL tV p.c8)::(.unk::(.unk::((i p.is3)::((i p.is4)::((i p.is5)::((.ptr 0 0 0 0)::((b p.bs7)::((i s.is8)::(ra 48 [])))))))))),[⟨0,4,[[(i p.d6),(i p.b8),(i p.d8),(i p.g8)]],true,false,0⟩]⟩
noncomputable def V7 {α:Type} (k:ba5→α) (e:Nat→α) (z:α) (p:oa5) (s:ba5):α:=let t1:=(va1 (⟨(⟨p.d6,p.b8,p.d8⟩:V3),p.g8⟩:Pln) (gL tV p.c8 s.is8.toNat));(sl (decide (s.is8 < (↑(List.length p.c8):Int))) (sl p.bs7 (sl (inB s.is8 (List.length p.c8)) (sl (Pa0 (⟨(⟨p.d6,p.b8,p.d8⟩:V3),p.g8⟩:Pln) (gL tV p.c8 s.is8.toNat)) (sl (t1 != 0) (e 1) (k ⟨(W (s.is8+1))⟩)) z) z) (e 2)) (e 3))
noncomputable def A1 (p:oa5) (s:ba5):Stp ba5:=V7 .next .exit .fail p s
noncomputable def wb2:Lo oa5 ba5:=⟨En Ta7,0,re4,[1,0,1,4,4,1,0,4,1,4,4,1,0,4,1,4,4,1,0,4,1,1,4,4],[0,3,4,5,6,7,8],.p,[⟨((.s (.c 3 (nL tV)))::((.s (.o .unk))::((.s (.o .unk))::((.s (.o (.int .i64)))::((.s (.o (.int .i64)))::((.s (.o (.int .i64)))::((.s (.o (.ptr 0 0 0 0)))::((.s (.o .bool))::((.s (.o (.int .i64)))::(ru2 48 [])))))))))),[⟨0,4,true,(some [[(.o (.int .i64)),(.o (.int .i64)),(.o (.int .i64)),(.o (.int .i64))]])⟩],fun a H=>(⟨(rL tV (slT a 0)),(toI (slT a 3)),(toI (slT a 4)),(toI (slT a 5)),(toB (slT a 7)),(toI (slT (rwT (elT H 0) 0) 0)),(toI (slT (rwT (elT H 0) 0) 1)),(toI (slT (rwT (elT H 0) 0) 2)),(toI (slT (rwT (elT H 0) 0) 3))⟩,⟨(toI (slT a 8))⟩)⟩],A1,[(none,fun p s=>⟨[(b false)],[]⟩),(some 6,fun p s=>⟨((eL tV p.c8)::(.unk::(.unk::((i p.is3)::((i p.is4)::((i p.is5)::((.ptr 0 0 0 0)::((b p.bs7)::((i s.is8)::(ra 32 ((i s.is8)::((eL tV p.c8)::((i (↑(List.length p.c8):Int))::((b (decide (s.is8 < (↑(List.length p.c8):Int))))::((b true)::((b p.bs7)::((b p.bs7)::(ra 9 [])))))))))))))))))),[⟨0,4,[[(i p.d6),(i p.b8),(i p.d8),(i p.g8)]],true,false,0⟩]⟩),(some 6,fun p s=>⟨((eL tV p.c8)::(.unk::(.unk::((i p.is3)::((i p.is4)::((i p.is5)::((.ptr 0 0 0 0)::((b p.bs7)::((i s.is8)::(ra 32 ((i s.is8)::((eL tV p.c8)::((i (↑(List.length p.c8):Int))::((b (decide (s.is8 < (↑(List.length p.c8):Int))))::((b false)::(u::((b false)::(ra 9 [])))))))))))))))))),[⟨0,4,[[(i p.d6),(i p.b8),(i p.d8),(i p.g8)]],true,false,0⟩]⟩)],ad9⟩
theorem bd0:wb2.Ok:=Lo.ok [] (by kernel_rfl) .nil rfl (.cons (fun a H=>by kernel_rfl) .nil) fun p s=>(.of @V7 (fun F _ _ _ _ _=>by unfold V7;(repeat' apply k8 (f:=F))<;>rfl) (by kernel_rfl))
structure Ja0 where
 is3:Int
 is4:Int
structure ba6 where
 c8:List V3
 is5:Int
noncomputable def bd1 (p:Ja0) (s:ba6):St:=⟨((eL tV s.c8)::(.unk::(.unk::((i p.is3)::((i p.is4)::((i s.is5)::(ra 51 []))))))),[]⟩
noncomputable def ea5 {α:Type} (k:ba6→α) (e:Nat→α) (z:α) (p:Ja0) (s:ba6):α:=let t1:=(sa0 (gL tV s.c8 p.is3.toNat) (gL tV s.c8 p.is4.toNat) (gL tV s.c8 s.is5.toNat));let t2:=(lp (A1 (⟨(rt tV s.c8),p.is3,p.is4,s.is5,t1.2,t1.1.n.x,t1.1.n.y,t1.1.n.z,t1.1.b⟩:oa5)) (⟨0⟩:ba5));(sl (decide (s.is5 < p.is4)) (sl (inB p.is3 (List.length s.c8)) (sl (inB p.is4 (List.length s.c8)) (sl (inB s.is5 (List.length s.c8)) (sl (sa1 (gL tV s.c8 p.is3.toNat) (gL tV s.c8 p.is4.toNat) (gL tV s.c8 s.is5.toNat)) (sl ((cnE tV s.c8)&&true) (sl (Nat.beq t2.1 1) (e 1) (sl (Nat.beq t2.1 2) (k ⟨(rt tV s.c8),(W (s.is5+1))⟩) (sl (Nat.beq t2.1 3) (k ⟨(rt tV s.c8),(W (s.is5+1))⟩) z))) z) z) z) z) z) (e 2))
noncomputable def N2 (p:Ja0) (s:ba6):Stp ba6:=ea5 .next .exit .fail p s
noncomputable def wb3:Lo Ja0 ba6:=⟨En Ta7,0,re4,[1,0,1,4,4,1,0,4,1,4,4,1,0,4,1,4,4],[0,3,4,5],(.s .p (.s (.b (.s .p (.s .p (.b (.u wb2.ls))))) .p)),[⟨((.s (.c 3 (nL tV)))::((.s (.o .unk))::((.s (.o .unk))::((.s (.o (.int .i64)))::((.s (.o (.int .i64)))::((.s (.o (.int .i64)))::(ru2 51 []))))))),[],fun a H=>(⟨(toI (slT a 3)),(toI (slT a 4))⟩,⟨(rL tV (slT a 0)),(toI (slT a 5))⟩)⟩],N2,[(none,fun p s=>⟨[(b false)],[]⟩),(some 4,fun p s=>⟨((eL tV s.c8)::(.unk::(.unk::((i p.is3)::((i p.is4)::((i s.is5)::(ra 14 ((i s.is5)::((i p.is4)::((b (decide (s.is5 < p.is4)))::(ra 34 []))))))))))),[]⟩)],bd1⟩
theorem bd2:wb3.Ok:=Lo.ok [wb2.pr] (by kernel_rfl) (.cons bd0 .nil) rfl (.cons (fun a H=>by kernel_rfl) .nil) fun p s=>(.of @ea5 (fun F _ _ _ _ _=>by unfold ea5;(repeat' apply k8 (f:=F))<;>rfl) (by kernel_rfl))
structure Ja1 where
 is3:Int
structure ba7 where
 c8:List V3
 is4:Int
noncomputable def bd3 (p:Ja1) (s:ba7):St:=⟨((eL tV s.c8)::(.unk::(.unk::((i p.is3)::((i s.is4)::(ra 52 [])))))),[]⟩
noncomputable def ea6 {α:Type} (k:ba7→α) (e:Nat→α) (z:α) (p:Ja1) (s:ba7):α:=let t1:=(lp (N2 (⟨p.is3,s.is4⟩:Ja0)) (⟨(rt tV s.c8),0⟩:ba6));(sl (decide (s.is4 < p.is3)) (sl ((cnE tV s.c8)&&true) (sl (Nat.beq t1.1 1) (e 1) (sl (Nat.beq t1.1 2) (k ⟨t1.2.c8,(W (s.is4+1))⟩) z)) z) (e 2))
noncomputable def N4 (p:Ja1) (s:ba7):Stp ba7:=ea6 .next .exit .fail p s
noncomputable def wb4:Lo Ja1 ba7:=⟨En Ta7,0,re4,[1,0,1,4,4,1,0,4,1,4,4],[0,3,4],(.s .p (.s (.b (.s .p (.b (.u wb3.ls)))) .p)),[⟨((.s (.c 3 (nL tV)))::((.s (.o .unk))::((.s (.o .unk))::((.s (.o (.int .i64)))::((.s (.o (.int .i64)))::(ru2 52 [])))))),[],fun a H=>(⟨(toI (slT a 3))⟩,⟨(rL tV (slT a 0)),(toI (slT a 4))⟩)⟩],N4,[(none,fun p s=>⟨[(b false)],[]⟩),(some 2,fun p s=>⟨((eL tV s.c8)::(.unk::(.unk::((i p.is3)::((i s.is4)::(ra 10 ((i s.is4)::((i p.is3)::((b (decide (s.is4 < p.is3)))::(ra 39 [])))))))))),[]⟩)],bd3⟩
theorem bd4:wb4.Ok:=Lo.ok [wb3.pr] (by kernel_rfl) (.cons bd2 .nil) rfl (.cons (fun a H=>by kernel_rfl) .nil) fun p s=>(.of @ea6 (fun F _ _ _ _ _=>by unfold ea6;(repeat' apply k8 (f:=F))<;>rfl) (by kernel_rfl))
structure Ja2 where
structure ba8 where
 c8:List V3
 is3:Int
noncomputable def bd5 (p:Ja2) (s:ba8):St:=⟨((eL tV s.c8)::(.unk::(.unk::((i s.is3)::(ra 53 []))))),[]⟩
noncomputable def ea7 {α:Type} (k:ba8→α) (e:Nat→α) (z:α) (p:Ja2) (s:ba8):α:=let t1:=(lp (N4 (⟨s.is3⟩:Ja1)) (⟨(rt tV s.c8),0⟩:ba7));(sl (decide (s.is3 < (↑(List.length s.c8):Int))) (sl ((cnE tV s.c8)&&true) (sl (Nat.beq t1.1 1) (e 1) (sl (Nat.beq t1.1 2) (k ⟨t1.2.c8,(W (s.is3+1))⟩) z)) z) (e 2))
noncomputable def N5 (p:Ja2) (s:ba8):Stp ba8:=ea7 .next .exit .fail p s
noncomputable def wb5:Lo Ja2 ba8:=⟨En Ta7,0,re4,[1,0,1,4,4],[0,3],(.s .p (.s (.b (.s .p (.b (.u wb4.ls)))) .p)),[⟨((.s (.c 3 (nL tV)))::((.s (.o .unk))::((.s (.o .unk))::((.s (.o (.int .i64)))::(ru2 53 []))))),[],fun a H=>(⟨⟩,⟨(rL tV (slT a 0)),(toI (slT a 3))⟩)⟩],N5,[(none,fun p s=>⟨[(b false)],[]⟩),(some 0,fun p s=>⟨((eL tV s.c8)::(.unk::(.unk::((i s.is3)::(ra 5 ((i s.is3)::((eL tV s.c8)::((i (↑(List.length s.c8):Int))::((b (decide (s.is3 < (↑(List.length s.c8):Int))))::(ra 44 [])))))))))),[]⟩)],bd5⟩
theorem bd6:wb5.Ok:=Lo.ok [wb4.pr] (by kernel_rfl) (.cons bd4 .nil) rfl (.cons (fun a H=>by kernel_rfl) .nil) fun p s=>(.of @ea7 (fun F _ _ _ _ _=>by unfold ea7;(repeat' apply k8 (f:=F))<;>rfl) (by kernel_rfl))
noncomputable def Ga0 (x:List V3):Option (b7×List c7):=let t1:=(lp (N5 (⟨⟩:Ja2)) (⟨(rt tV x),0⟩:ba8));(sl ((cnE tV x)&&true) (sl (Nat.beq t1.1 1) (some ((b false),[])) (sl (Nat.beq t1.1 2) (some ((b true),[])) none)) none)
noncomputable def Ga1 (x:List V3):Bool:=M4 (one r1B) (Ga0 x)
noncomputable def Pa1 (x:List V3):Bool:=okO (one r1B) (Ga0 x)
noncomputable def Vb9:Sum:=V6 (oa4 tV) (fun x=>.guard (Pa1 x) (.ret ((one r1B).enc (Ga1 x),[])))
theorem uc9:g9 prog G 78 Vb9:=Ta2 (bd b78 sd9) (one r1B) (o:=Ga0) fun x=>xa9 (.s .p (.s (.s .p (.b (.u wb5.ls))) .p)) [wb5.pr] (by kernel_rfl) (.cons bd6 .nil) (by kernel_rfl)
noncomputable def cc9:List (Nat×Sum):=[(162,cc8),(78,Vb9)]
theorem bd7:j9 prog G cc9:=⟨lc6,uc9,trivial⟩
structure Aa9 where
 c8:List V3
structure L2 where
 is3:Int
noncomputable def Oc2 (p:Aa9) (s:L2):St:=⟨((eL tV p.c8)::(.unk::(.unk::((i s.is3)::(ra 17 []))))),[]⟩
noncomputable def Z7 {α:Type} (k:L2→α) (e:Nat→α) (z:α) (p:Aa9) (s:L2):α:=let t1:=(Ta5 (gL tV p.c8 s.is3.toNat));(sl (decide (s.is3 < (↑(List.length p.c8):Int))) (sl (inB s.is3 (List.length p.c8)) (sl (Ta6 (gL tV p.c8 s.is3.toNat)) (sl (!t1) (e 1) (k ⟨(W (s.is3+1))⟩)) z) z) (e 2))
noncomputable def V8 (p:Aa9) (s:L2):Stp L2:=Z7 .next .exit .fail p s
noncomputable def nb1:Lo Aa9 L2:=⟨En cc9,0,Oe0,[1,1,0,1,4,4],[0,3],.p,[⟨((.s (.c 3 (nL tV)))::((.s (.o .unk))::((.s (.o .unk))::((.s (.o (.int .i64)))::(ru2 17 []))))),[],fun a H=>(⟨(rL tV (slT a 0))⟩,⟨(toI (slT a 3))⟩)⟩],V8,[(none,fun p s=>⟨[(i 3)],[]⟩),(some 0,fun p s=>⟨((eL tV p.c8)::(.unk::(.unk::((i s.is3)::(ra 3 ((i s.is3)::((eL tV p.c8)::((i (↑(List.length p.c8):Int))::((b (decide (s.is3 < (↑(List.length p.c8):Int))))::(ra 10 [])))))))))),[]⟩)],Oc2⟩
theorem Oc3:nb1.Ok:=Lo.ok [] (by kernel_rfl) .nil rfl (.cons (fun a H=>by kernel_rfl) .nil) fun p s=>(.of @Z7 (fun F _ _ _ _ _=>by unfold Z7;(repeat' apply k8 (f:=F))<;>rfl) (by kernel_rfl))
noncomputable def va2 (x:List V3):Option (b7×List c7):=let t1:=(lp (V8 (⟨(rt tV x)⟩:Aa9)) (⟨0⟩:L2));let t2:=(Ga1 (rt tV (rt tV x)));(sl (decide ((↑(List.length x):Int) > 48)) (some ((i 2),[])) (sl ((cnE tV x)&&true) (sl (Nat.beq t1.1 1) (some ((i 3),[])) (sl (Nat.beq t1.1 2) (sl (okE tV (rt tV x)) (sl (Pa1 (rt tV (rt tV x))) (sl t2 (some ((i 11),[])) (some ((i 0),[]))) none) none) none)) none))
noncomputable def kb3 (x:List V3):Int:=M4 (one r1I) (va2 x)
noncomputable def Fb9 (x:List V3):Bool:=okO (one r1I) (va2 x)
noncomputable def vc0:Sum:=V6 (oa4 tV) (fun x=>.guard (Fb9 x) (.ret ((one r1I).enc (kb3 x),[])))
theorem td0:g9 prog G 125 vc0:=Ta2 (bd mf6 bd7) (one r1I) (o:=va2) fun x=>xa9 (.s .p (.s .p (.s (.s .p (.b (.u nb1.ls))) .p))) [nb1.pr] (by kernel_rfl) (.cons Oc3 .nil) (by kernel_rfl)
noncomputable def dc0:List (Nat×Sum):=[(135,wb1)]
theorem bd8:j9 prog G dc0:=⟨Fb7,trivial⟩
structure Ba0 where
 q9:List V3
 d6:Int
 b8:Int
 d8:Int
 g8:Int
structure L3 where
 is5:Int
noncomputable def Oc4 (p:Ba0) (s:L3):St:=⟨(.unk::((eL tV p.q9)::((.ptr 0 0 0 0)::(.unk::(.unk::((i s.is5)::(ra 13 []))))))),[⟨0,4,[[(i p.d6),(i p.b8),(i p.d8),(i p.g8)]],true,false,0⟩]⟩
noncomputable def Z8 {α:Type} (k:L3→α) (e:Nat→α) (z:α) (p:Ba0) (s:L3):α:=let t1:=(va1 (⟨(⟨p.d6,p.b8,p.d8⟩:V3),p.g8⟩:Pln) (gL tV p.q9 s.is5.toNat));(sl (decide (s.is5 < (↑(List.length p.q9):Int))) (sl (inB s.is5 (List.length p.q9)) (sl (Pa0 (⟨(⟨p.d6,p.b8,p.d8⟩:V3),p.g8⟩:Pln) (gL tV p.q9 s.is5.toNat)) (sl (decide (t1 > 0)) (e 1) (k ⟨(W (s.is5+1))⟩)) z) z) (e 2))
noncomputable def V9 (p:Ba0) (s:L3):Stp L3:=Z8 .next .exit .fail p s
noncomputable def nb2:Lo Ba0 L3:=⟨En dc0,0,Oe1,[1,0,1,4,4],[1,2,5],.p,[⟨((.s (.o .unk))::((.s (.c 3 (nL tV)))::((.s (.o (.ptr 0 0 0 0)))::((.s (.o .unk))::((.s (.o .unk))::((.s (.o (.int .i64)))::(ru2 13 []))))))),[⟨0,4,true,(some [[(.o (.int .i64)),(.o (.int .i64)),(.o (.int .i64)),(.o (.int .i64))]])⟩],fun a H=>(⟨(rL tV (slT a 1)),(toI (slT (rwT (elT H 0) 0) 0)),(toI (slT (rwT (elT H 0) 0) 1)),(toI (slT (rwT (elT H 0) 0) 2)),(toI (slT (rwT (elT H 0) 0) 3))⟩,⟨(toI (slT a 5))⟩)⟩],V9,[(none,fun p s=>⟨[(b false)],[]⟩),(some 0,fun p s=>⟨(.unk::((eL tV p.q9)::((.ptr 0 0 0 0)::(.unk::(.unk::((i s.is5)::((i s.is5)::((eL tV p.q9)::((i (↑(List.length p.q9):Int))::((b (decide (s.is5 < (↑(List.length p.q9):Int))))::(ra 9 []))))))))))),[⟨0,4,[[(i p.d6),(i p.b8),(i p.d8),(i p.g8)]],true,false,0⟩]⟩)],Oc4⟩
theorem Oc5:nb2.Ok:=Lo.ok [] (by kernel_rfl) .nil rfl (.cons (fun a H=>by kernel_rfl) .nil) fun p s=>(.of @Z8 (fun F _ _ _ _ _=>by unfold Z8;(repeat' apply k8 (f:=F))<;>rfl) (by kernel_rfl))
noncomputable def va3 (x:Pln) (y:List V3):Option (b7×List c7):=let t1:=(lp (V9 (⟨(rt tV y),x.n.x,x.n.y,x.n.z,x.b⟩:Ba0)) (⟨0⟩:L3));(sl ((cnE tV y)&&true) (sl (Nat.beq t1.1 1) (some ((b false),[])) (sl (Nat.beq t1.1 2) (some ((b true),[])) none)) none)
noncomputable def oa2 (x:Pln) (y:List V3):Bool:=M4 (one r1B) (va3 x y)
noncomputable def ia3 (x:Pln) (y:List V3):Bool:=okO (one r1B) (va3 x y)
noncomputable def vc1:Sum:=ga1 (K9 tP) (oa4 tV) (fun x y=>.guard (ia3 x y) (.ret ((one r1B).enc (oa2 x y),[])))
theorem td1:g9 prog G 126 vc1:=Oa2 (bd mf7 bd8) (one r1B) (o:=va3) fun x y=>xa9 (.s .p (.s (.s .p (.b (.u nb2.ls))) .p)) [nb2.pr] (by kernel_rfl) (.cons Oc5 .nil) (by kernel_rfl)
noncomputable def Oc6:List (Nat×Sum):=[(182,Qb9)]
theorem Gd4:j9 prog G Oc6:=⟨Oc1,trivial⟩
structure Ta8 where
 i9:List Pln
 d6:Int
 b8:Int
 d8:Int
 g8:Int
structure W0 where
 is5:Int
noncomputable def td2 (p:Ta8) (s:W0):St:=⟨((eL tP p.i9)::(.unk::(.unk::((.ptr 0 0 0 0)::(.unk::((i s.is5)::(ra 42 []))))))),[⟨0,4,[[(i p.d6),(i p.b8),(i p.d8),(i p.g8)]],true,false,0⟩]⟩
noncomputable def ka3 {α:Type} (k:W0→α) (e:Nat→α) (z:α) (p:Ta8) (s:W0):α:=let t1:=(ka2 (gL tP p.i9 s.is5.toNat) (⟨(⟨p.d6,p.b8,p.d8⟩:V3),p.g8⟩:Pln));(sl (decide (s.is5 < (↑(List.length p.i9):Int))) (sl (inB s.is5 (List.length p.i9)) (sl (nb0 (gL tP p.i9 s.is5.toNat) (⟨(⟨p.d6,p.b8,p.d8⟩:V3),p.g8⟩:Pln)) (sl (decide (t1 < 0)) (k ⟨(W (s.is5+1))⟩) (e 1)) z) z) (e 2))
noncomputable def U5 (p:Ta8) (s:W0):Stp W0:=ka3 .next .exit .fail p s
noncomputable def Gb0:Lo Ta8 W0:=⟨En Oc6,0,Oe2,[1,1,0,4,4],[0,3,5],.p,[⟨((.s (.c 4 (nL tP)))::((.s (.o .unk))::((.s (.o .unk))::((.s (.o (.ptr 0 0 0 0)))::((.s (.o .unk))::((.s (.o (.int .i64)))::(ru2 42 []))))))),[⟨0,4,true,(some [[(.o (.int .i64)),(.o (.int .i64)),(.o (.int .i64)),(.o (.int .i64))]])⟩],fun a H=>(⟨(rL tP (slT a 0)),(toI (slT (rwT (elT H 0) 0) 0)),(toI (slT (rwT (elT H 0) 0) 1)),(toI (slT (rwT (elT H 0) 0) 2)),(toI (slT (rwT (elT H 0) 0) 3))⟩,⟨(toI (slT a 5))⟩)⟩],U5,[(some 0,fun p s=>let t1:=(ka2 (gL tP p.i9 s.is5.toNat) (⟨(⟨p.d6,p.b8,p.d8⟩:V3),p.g8⟩:Pln));⟨((eL tP p.i9)::(.unk::(.unk::((.ptr 0 0 0 0)::(.unk::((i s.is5)::(.unk::((i s.is5)::((eL tP p.i9)::((i (↑(List.length p.i9):Int))::((b (decide (s.is5 < (↑(List.length p.i9):Int))))::((b true)::((eL tP p.i9)::((i s.is5)::((.tptr [(i (gL tP p.i9 s.is5.toNat).n.x),(i (gL tP p.i9 s.is5.toNat).n.y),(i (gL tP p.i9 s.is5.toNat).n.z),(i (gL tP p.i9 s.is5.toNat).b)])::((.agg [(i (gL tP p.i9 s.is5.toNat).n.x),(i (gL tP p.i9 s.is5.toNat).n.y),(i (gL tP p.i9 s.is5.toNat).n.z),(i (gL tP p.i9 s.is5.toNat).b)])::((.agg [(i p.d6),(i p.b8),(i p.d8),(i p.g8)])::((i t1)::((b (decide (t1 < 0)))::((b (decide (t1 < 0)))::(ra 28 []))))))))))))))))))))),[⟨0,4,[[(i p.d6),(i p.b8),(i p.d8),(i p.g8)]],true,false,0⟩]⟩),(some 0,fun p s=>⟨((eL tP p.i9)::(.unk::(.unk::((.ptr 0 0 0 0)::(.unk::((i s.is5)::(.unk::((i s.is5)::((eL tP p.i9)::((i (↑(List.length p.i9):Int))::((b (decide (s.is5 < (↑(List.length p.i9):Int))))::((b false)::(u::(u::(u::(u::(u::(u::(u::((b false)::(ra 28 []))))))))))))))))))))),[⟨0,4,[[(i p.d6),(i p.b8),(i p.d8),(i p.g8)]],true,false,0⟩]⟩)],td2⟩
theorem td3:Gb0.Ok:=Lo.ok [] (by kernel_rfl) .nil rfl (.cons (fun a H=>by kernel_rfl) .nil) fun p s=>(.of @ka3 (fun F _ _ _ _ _=>by unfold ka3;(repeat' apply k8 (f:=F))<;>rfl) (by kernel_rfl))
noncomputable def Pa2 (x:List Pln) (y:Pln):Option (b7×List c7):=let t1:=(lp (U5 (⟨(rt tP x),y.n.x,y.n.y,y.n.z,y.b⟩:Ta8)) (⟨0⟩:W0));let a0:=(r6 (fun k=>(fun k=>(tP).row (gL tP (rt tP x) k)) (0+k)) (List.range (t1.2.is5.toNat - 0)));let a1:=(r6 (fun k=>(fun k=>(tP).row (gL tP (rt tP x) k)) (t1.2.is5.toNat+k)) (List.range ((List.length (rt tP x)) - t1.2.is5.toNat)));let a2:=(inB t1.2.is5 ((List.length (rt tP x))+1));let a3:=(Nat.beq (0+(len a0)) (len (app [] a0))&&Nat.ble (((0+(len a0))+1)*32) room);let a4:=(((0+(len a0))+1)+(len a1));let a5:=(gL tP (rt tP x) t1.2.is5.toNat);let a6:=(Nat.beq 1 1&&Nat.ble ((1+(len a1))*32) room);let a7:=(Nat.beq 0 0&&Nat.ble ((0+(len a0))*32) room);(sl ((cnE tP x)&&true) (sl (Nat.beq t1.1 1) (sl (decide (t1.2.is5 < (↑(List.length (rt tP x)):Int))) (sl (inB t1.2.is5 (List.length (rt tP x))) (sl ((a5.n.x==y.n.x)&&((a5.n.y==y.n.y)&&((a5.n.z==y.n.z)&&((a5.b==y.b)&&true)))) (some ((eL tP (rt tP x)),[])) (sl a2 (sl (Nat.beq (len a0) 0) (sl a2 (sl (Nat.beq (len a1) 0) (some ((.sl 0 0 1 0),[⟨73,4,[[(i y.n.x),(i y.n.y),(i y.n.z),(i y.b)]],true,false,0⟩])) (sl a6 (some ((.sl 0 0 (1+(len a1)) 0),[⟨73,4,(app [[(i y.n.x),(i y.n.y),(i y.n.z),(i y.b)]] a1),true,false,0⟩])) none)) none) (sl a7 (sl a3 (sl a2 (sl (Nat.beq (len a1) 0) (some ((.sl 0 0 ((0+(len a0))+1) 0),[⟨73,4,(app (app [] a0) [[(i y.n.x),(i y.n.y),(i y.n.z),(i y.b)]]),true,false,0⟩])) (sl (Nat.beq ((0+(len a0))+1) (len (app (app [] a0) [[(i y.n.x),(i y.n.y),(i y.n.z),(i y.b)]]))&&Nat.ble (a4*32) room) (some ((.sl 0 0 a4 0),[⟨73,4,(app (app (app [] a0) [[(i y.n.x),(i y.n.y),(i y.n.z),(i y.b)]]) a1),true,false,0⟩])) none)) none) none) none)) none)) none) (sl a2 (sl (Nat.beq (len a0) 0) (sl a2 (sl (Nat.beq (len a1) 0) (some ((.sl 0 0 1 0),[⟨73,4,[[(i y.n.x),(i y.n.y),(i y.n.z),(i y.b)]],true,false,0⟩])) (sl a6 (some ((.sl 0 0 (1+(len a1)) 0),[⟨73,4,(app [[(i y.n.x),(i y.n.y),(i y.n.z),(i y.b)]] a1),true,false,0⟩])) none)) none) (sl a7 (sl a3 (sl a2 (sl (Nat.beq (len a1) 0) (some ((.sl 0 0 ((0+(len a0))+1) 0),[⟨73,4,(app (app [] a0) [[(i y.n.x),(i y.n.y),(i y.n.z),(i y.b)]]),true,false,0⟩])) (sl (Nat.beq ((0+(len a0))+1) (len (app (app [] a0) [[(i y.n.x),(i y.n.y),(i y.n.z),(i y.b)]]))&&Nat.ble (a4*32) room) (some ((.sl 0 0 a4 0),[⟨73,4,(app (app (app [] a0) [[(i y.n.x),(i y.n.y),(i y.n.z),(i y.b)]]) a1),true,false,0⟩])) none)) none) none) none)) none)) (sl (Nat.beq t1.1 2) (sl (decide (t1.2.is5 < (↑(List.length (rt tP x)):Int))) (sl (inB t1.2.is5 (List.length (rt tP x))) (sl ((a5.n.x==y.n.x)&&((a5.n.y==y.n.y)&&((a5.n.z==y.n.z)&&((a5.b==y.b)&&true)))) (some ((eL tP (rt tP x)),[])) (sl a2 (sl (Nat.beq (len a0) 0) (sl a2 (sl (Nat.beq (len a1) 0) (some ((.sl 0 0 1 0),[⟨73,4,[[(i y.n.x),(i y.n.y),(i y.n.z),(i y.b)]],true,false,0⟩])) (sl a6 (some ((.sl 0 0 (1+(len a1)) 0),[⟨73,4,(app [[(i y.n.x),(i y.n.y),(i y.n.z),(i y.b)]] a1),true,false,0⟩])) none)) none) (sl a7 (sl a3 (sl a2 (sl (Nat.beq (len a1) 0) (some ((.sl 0 0 ((0+(len a0))+1) 0),[⟨73,4,(app (app [] a0) [[(i y.n.x),(i y.n.y),(i y.n.z),(i y.b)]]),true,false,0⟩])) (sl (Nat.beq ((0+(len a0))+1) (len (app (app [] a0) [[(i y.n.x),(i y.n.y),(i y.n.z),(i y.b)]]))&&Nat.ble (a4*32) room) (some ((.sl 0 0 a4 0),[⟨73,4,(app (app (app [] a0) [[(i y.n.x),(i y.n.y),(i y.n.z),(i y.b)]]) a1),true,false,0⟩])) none)) none) none) none)) none)) none) (sl a2 (sl (Nat.beq (len a0) 0) (sl a2 (sl (Nat.beq (len a1) 0) (some ((.sl 0 0 1 0),[⟨73,4,[[(i y.n.x),(i y.n.y),(i y.n.z),(i y.b)]],true,false,0⟩])) (sl a6 (some ((.sl 0 0 (1+(len a1)) 0),[⟨73,4,(app [[(i y.n.x),(i y.n.y),(i y.n.z),(i y.b)]] a1),true,false,0⟩])) none)) none) (sl a7 (sl a3 (sl a2 (sl (Nat.beq (len a1) 0) (some ((.sl 0 0 ((0+(len a0))+1) 0),[⟨73,4,(app (app [] a0) [[(i y.n.x),(i y.n.y),(i y.n.z),(i y.b)]]),true,false,0⟩])) (sl (Nat.beq ((0+(len a0))+1) (len (app (app [] a0) [[(i y.n.x),(i y.n.y),(i y.n.z),(i y.b)]]))&&Nat.ble (a4*32) room) (some ((.sl 0 0 a4 0),[⟨73,4,(app (app (app [] a0) [[(i y.n.x),(i y.n.y),(i y.n.z),(i y.b)]]) a1),true,false,0⟩])) none)) none) none) none)) none)) none)) none)
noncomputable def sa2 (x:List Pln) (y:Pln):List Pln:=M4 (one (r1L tP)) (Pa2 x y)
noncomputable def sa3 (x:List Pln) (y:Pln):Bool:=okO (one (r1L tP)) (Pa2 x y)
noncomputable def kd8:Sum:=ga1 (oa4 tP) (K9 tP) (fun x y=>.guard (sa3 x y) (.ret ((one (r1L tP)).enc (sa2 x y),[])))
theorem Sd3:g9 prog G 127 kd8:=Oa2 (bd mf8 Gd4) (one (r1L tP)) (o:=Pa2) fun x y=>xa9 (.s .p (.s .p (.s (.b (.u Gb0.ls)) .p))) [Gb0.pr] (by kernel_rfl) (.cons td3 .nil) (by kernel_rfl)
noncomputable def Ya8:List (Nat×Sum):=[(125,vc0),(107,mb9),(126,vc1),(127,kd8),(73,Oc0)]
theorem bd9:j9 prog G Ya8:=⟨td0,Fb6,td1,Sd3,Gd2,trivial⟩
structure U6 where
 c8:List V3
 is6:Int
 is7:Int
structure w9 where
 ph:Nat
 is8:Int
 ra5:List Pln
noncomputable def yc6 (p:U6) (s:w9):St:=⟨((eL tV p.c8)::(ra 4 ((.v (.slice none 0 0))::((i p.is6)::((i p.is7)::((i s.is8)::(ra 56 []))))))),[]⟩
noncomputable def yc7 (p:U6) (s:w9):St:=⟨((eL tV p.c8)::(ra 4 ((eL tP s.ra5)::((i p.is6)::((i p.is7)::((i s.is8)::(ra 56 []))))))),[]⟩
noncomputable def Oc7 (p:U6) (s:w9):St:=(sel (Nat.beq s.ph 1) (yc7 p s) (yc6 p s))
noncomputable def Z9 {α:Type} (k:w9→α) (e:Nat→α) (z:α) (p:U6) (s:w9):α:=let t1:=(sa0 (gL tV p.c8 p.is6.toNat) (gL tV p.c8 p.is7.toNat) (gL tV p.c8 s.is8.toNat));let t2:=(oa2 t1.1 (rt tV p.c8));let t3:=(sa2 [] t1.1);let t4:=(Oa9 t1.1);let t5:=(oa2 t4 (rt tV p.c8));let t6:=(sa2 (rt tP t3) t4);let t7:=(sa2 [] t4);(sl (decide (s.is8 < p.is7)) (sl (inB p.is6 (List.length p.c8)) (sl (inB p.is7 (List.length p.c8)) (sl (inB s.is8 (List.length p.c8)) (sl (sa1 (gL tV p.c8 p.is6.toNat) (gL tV p.c8 p.is7.toNat) (gL tV p.c8 s.is8.toNat)) (sl (!t1.2) (k ⟨0,(W (s.is8+1)),[]⟩) (sl (okE tV p.c8) (sl (ia3 t1.1 (rt tV p.c8)) (sl t2 (sl (sa3 [] t1.1) (sl (okE tV p.c8) (sl (ia3 t4 (rt tV p.c8)) (sl t5 (sl (okE tP t3) (sl (sa3 (rt tP t3) t4) (k ⟨1,(W (s.is8+1)),t6⟩) z) z) (k ⟨1,(W (s.is8+1)),t3⟩)) z) z) z) (sl (okE tV p.c8) (sl (ia3 t4 (rt tV p.c8)) (sl t5 (sl (sa3 [] t4) (k ⟨1,(W (s.is8+1)),t7⟩) z) (k ⟨0,(W (s.is8+1)),[]⟩)) z) z)) z) z)) z) z) z) z) (e 1))
noncomputable def aa0 {α:Type} (k:w9→α) (e:Nat→α) (z:α) (p:U6) (s:w9):α:=let t1:=(sa0 (gL tV p.c8 p.is6.toNat) (gL tV p.c8 p.is7.toNat) (gL tV p.c8 s.is8.toNat));let t2:=(oa2 t1.1 (rt tV p.c8));let t3:=(sa2 (rt tP s.ra5) t1.1);let t4:=(Oa9 t1.1);let t5:=(oa2 t4 (rt tV p.c8));let t6:=(sa2 (rt tP t3) t4);let t7:=(sa2 (rt tP s.ra5) t4);(sl (decide (s.is8 < p.is7)) (sl (inB p.is6 (List.length p.c8)) (sl (inB p.is7 (List.length p.c8)) (sl (inB s.is8 (List.length p.c8)) (sl (sa1 (gL tV p.c8 p.is6.toNat) (gL tV p.c8 p.is7.toNat) (gL tV p.c8 s.is8.toNat)) (sl (!t1.2) (k ⟨1,(W (s.is8+1)),s.ra5⟩) (sl (okE tV p.c8) (sl (ia3 t1.1 (rt tV p.c8)) (sl t2 (sl (okE tP s.ra5) (sl (sa3 (rt tP s.ra5) t1.1) (sl (okE tV p.c8) (sl (ia3 t4 (rt tV p.c8)) (sl t5 (sl (okE tP t3) (sl (sa3 (rt tP t3) t4) (k ⟨1,(W (s.is8+1)),t6⟩) z) z) (k ⟨1,(W (s.is8+1)),t3⟩)) z) z) z) z) (sl (okE tV p.c8) (sl (ia3 t4 (rt tV p.c8)) (sl t5 (sl (okE tP s.ra5) (sl (sa3 (rt tP s.ra5) t4) (k ⟨1,(W (s.is8+1)),t7⟩) z) z) (k ⟨1,(W (s.is8+1)),s.ra5⟩)) z) z)) z) z)) z) z) z) z) (e 2))
noncomputable def ea8 (p:U6) (s:w9):Stp w9:=(sel (Nat.beq s.ph 1) (aa0 .next .exit .fail p s) (Z9 .next .exit .fail p s))
noncomputable def nb3:Lo U6 w9:=⟨En Ya8,0,Fe3,[1,1,1,1,0,1,4,4,1,0,4,1,4,4,1,0,4,1,4,4],[0,5,6,7,8],.p,[⟨((.s (.c 3 (nL tV)))::(ru2 4 ((.s (.o .nil))::((.s (.o (.int .i64)))::((.s (.o (.int .i64)))::((.s (.o (.int .i64)))::(ru2 56 []))))))),[],fun a H=>(⟨(rL tV (slT a 0)),(toI (slT a 6)),(toI (slT a 7))⟩,⟨0,(toI (slT a 8)),[]⟩)⟩,⟨((.s (.c 3 (nL tV)))::(ru2 4 ((.s (.c 4 (nL tP)))::((.s (.o (.int .i64)))::((.s (.o (.int .i64)))::((.s (.o (.int .i64)))::(ru2 56 []))))))),[],fun a H=>(⟨(rL tV (slT a 0)),(toI (slT a 6)),(toI (slT a 7))⟩,⟨1,(toI (slT a 8)),(rL tP (slT a 5))⟩)⟩],ea8,[(some 4,fun p s=>⟨((eL tV p.c8)::(ra 4 ((.v (.slice none 0 0))::((i p.is6)::((i p.is7)::((i s.is8)::(ra 18 ((i s.is8)::((i p.is7)::((b (decide (s.is8 < p.is7)))::(ra 35 []))))))))))),[]⟩),(some 4,fun p s=>⟨((eL tV p.c8)::(ra 4 ((eL tP s.ra5)::((i p.is6)::((i p.is7)::((i s.is8)::(ra 18 ((i s.is8)::((i p.is7)::((b (decide (s.is8 < p.is7)))::(ra 35 []))))))))))),[]⟩)],Oc7⟩
theorem Oc8:nb3.Ok:=Lo.ok [] (by kernel_rfl) .nil rfl (.cons (fun a H=>by kernel_rfl) (.cons (fun a H=>by kernel_rfl) .nil)) fun p s=>(.sel (Nat.beq s.ph 1) (.of @aa0 (fun F _ _ _ _ _=>by unfold aa0;(repeat' apply k8 (f:=F))<;>rfl) (by kernel_rfl)) (.of @Z9 (fun F _ _ _ _ _=>by unfold Z9;(repeat' apply k8 (f:=F))<;>rfl) (by kernel_rfl)))
structure U7 where
 is6:Int
structure y5 where
 ph:Nat
 c8:List V3
 is7:Int
 ra5:List Pln
noncomputable def yc8 (p:U7) (s:y5):St:=⟨((eL tV s.c8)::(ra 4 ((.v (.slice none 0 0))::((i p.is6)::((i s.is7)::(ra 57 [])))))),[]⟩
noncomputable def yc9 (p:U7) (s:y5):St:=⟨((eL tV s.c8)::(ra 4 ((eL tP s.ra5)::((i p.is6)::((i s.is7)::(ra 57 [])))))),[]⟩
noncomputable def Oc9 (p:U7) (s:y5):St:=(sel (Nat.beq s.ph 1) (yc9 p s) (yc8 p s))
noncomputable def aa1 {α:Type} (k:y5→α) (e:Nat→α) (z:α) (p:U7) (s:y5):α:=let t1:=(lp (ea8 (⟨(rt tV s.c8),p.is6,s.is7⟩:U6)) (⟨0,0,[]⟩:w9));(sl (decide (s.is7 < p.is6)) (sl ((cnE tV s.c8)&&true) (sl (Nat.beq t1.1 1) (k ⟨0,(rt tV s.c8),(W (s.is7+1)),[]⟩) (sl (Nat.beq t1.1 2) (k ⟨1,(rt tV s.c8),(W (s.is7+1)),t1.2.ra5⟩) z)) z) (e 1))
noncomputable def aa2 {α:Type} (k:y5→α) (e:Nat→α) (z:α) (p:U7) (s:y5):α:=let t1:=(lp (ea8 (⟨(rt tV s.c8),p.is6,s.is7⟩:U6)) (⟨1,0,(rt tP s.ra5)⟩:w9));(sl (decide (s.is7 < p.is6)) (sl ((cnE tV s.c8)&&((cnE tP s.ra5)&&true)) (sl (Nat.beq t1.1 1) (k ⟨0,(rt tV s.c8),(W (s.is7+1)),[]⟩) (sl (Nat.beq t1.1 2) (k ⟨1,(rt tV s.c8),(W (s.is7+1)),t1.2.ra5⟩) z)) z) (e 2))
noncomputable def ea9 (p:U7) (s:y5):Stp y5:=(sel (Nat.beq s.ph 1) (aa2 .next .exit .fail p s) (aa1 .next .exit .fail p s))
noncomputable def nb4:Lo U7 y5:=⟨En Ya8,0,Fe3,[1,1,1,1,0,1,4,4,1,0,4,1,4,4],[0,5,6,7],(.s .p (.s (.b (.s .p (.b (.u nb3.ls)))) .p)),[⟨((.s (.c 3 (nL tV)))::(ru2 4 ((.s (.o .nil))::((.s (.o (.int .i64)))::((.s (.o (.int .i64)))::(ru2 57 [])))))),[],fun a H=>(⟨(toI (slT a 6))⟩,⟨0,(rL tV (slT a 0)),(toI (slT a 7)),[]⟩)⟩,⟨((.s (.c 3 (nL tV)))::(ru2 4 ((.s (.c 4 (nL tP)))::((.s (.o (.int .i64)))::((.s (.o (.int .i64)))::(ru2 57 [])))))),[],fun a H=>(⟨(toI (slT a 6))⟩,⟨1,(rL tV (slT a 0)),(toI (slT a 7)),(rL tP (slT a 5))⟩)⟩],ea9,[(some 2,fun p s=>⟨((eL tV s.c8)::(ra 4 ((.v (.slice none 0 0))::((i p.is6)::((i s.is7)::(ra 14 ((i s.is7)::((i p.is6)::((b (decide (s.is7 < p.is6)))::(ra 40 [])))))))))),[]⟩),(some 2,fun p s=>⟨((eL tV s.c8)::(ra 4 ((eL tP s.ra5)::((i p.is6)::((i s.is7)::(ra 14 ((i s.is7)::((i p.is6)::((b (decide (s.is7 < p.is6)))::(ra 40 [])))))))))),[]⟩)],Oc9⟩
theorem Pc0:nb4.Ok:=Lo.ok [nb3.pr] (by kernel_rfl) (.cons Oc8 .nil) rfl (.cons (fun a H=>by kernel_rfl) (.cons (fun a H=>by kernel_rfl) .nil)) fun p s=>(.sel (Nat.beq s.ph 1) (.of @aa2 (fun F _ _ _ _ _=>by unfold aa2;(repeat' apply k8 (f:=F))<;>rfl) (by kernel_rfl)) (.of @aa1 (fun F _ _ _ _ _=>by unfold aa1;(repeat' apply k8 (f:=F))<;>rfl) (by kernel_rfl)))
structure ca8 where
structure A2 where
 ph:Nat
 c8:List V3
 is6:Int
 ra5:List Pln
noncomputable def zc0 (p:ca8) (s:A2):St:=⟨((eL tV s.c8)::(ra 4 ((.v (.slice none 0 0))::((i s.is6)::(ra 58 []))))),[]⟩
noncomputable def zc1 (p:ca8) (s:A2):St:=⟨((eL tV s.c8)::(ra 4 ((eL tP s.ra5)::((i s.is6)::(ra 58 []))))),[]⟩
noncomputable def Pc1 (p:ca8) (s:A2):St:=(sel (Nat.beq s.ph 1) (zc1 p s) (zc0 p s))
noncomputable def aa3 {α:Type} (k:A2→α) (e:Nat→α) (z:α) (p:ca8) (s:A2):α:=let t1:=(lp (ea9 (⟨s.is6⟩:U7)) (⟨0,(rt tV s.c8),0,[]⟩:y5));(sl (decide (s.is6 < (↑(List.length s.c8):Int))) (sl ((cnE tV s.c8)&&true) (sl (Nat.beq t1.1 1) (k ⟨0,t1.2.c8,(W (s.is6+1)),[]⟩) (sl (Nat.beq t1.1 2) (k ⟨1,t1.2.c8,(W (s.is6+1)),t1.2.ra5⟩) z)) z) (e 1))
noncomputable def aa4 {α:Type} (k:A2→α) (e:Nat→α) (z:α) (p:ca8) (s:A2):α:=let t1:=(lp (ea9 (⟨s.is6⟩:U7)) (⟨1,(rt tV s.c8),0,(rt tP s.ra5)⟩:y5));(sl (decide (s.is6 < (↑(List.length s.c8):Int))) (sl ((cnE tV s.c8)&&((cnE tP s.ra5)&&true)) (sl (Nat.beq t1.1 1) (k ⟨0,t1.2.c8,(W (s.is6+1)),[]⟩) (sl (Nat.beq t1.1 2) (k ⟨1,t1.2.c8,(W (s.is6+1)),t1.2.ra5⟩) z)) z) (e 2))
noncomputable def Ja3 (p:ca8) (s:A2):Stp A2:=(sel (Nat.beq s.ph 1) (aa4 .next .exit .fail p s) (aa3 .next .exit .fail p s))
noncomputable def nb5:Lo ca8 A2:=⟨En Ya8,0,Fe3,[1,1,1,1,0,1,4,4],[0,5,6],(.s .p (.s (.b (.s .p (.b (.u nb4.ls)))) .p)),[⟨((.s (.c 3 (nL tV)))::(ru2 4 ((.s (.o .nil))::((.s (.o (.int .i64)))::(ru2 58 []))))),[],fun a H=>(⟨⟩,⟨0,(rL tV (slT a 0)),(toI (slT a 6)),[]⟩)⟩,⟨((.s (.c 3 (nL tV)))::(ru2 4 ((.s (.c 4 (nL tP)))::((.s (.o (.int .i64)))::(ru2 58 []))))),[],fun a H=>(⟨⟩,⟨1,(rL tV (slT a 0)),(toI (slT a 6)),(rL tP (slT a 5))⟩)⟩],Ja3,[(some 0,fun p s=>⟨((eL tV s.c8)::(ra 4 ((.v (.slice none 0 0))::((i s.is6)::(ra 9 ((i s.is6)::((eL tV s.c8)::((i (↑(List.length s.c8):Int))::((b (decide (s.is6 < (↑(List.length s.c8):Int))))::(ra 45 [])))))))))),[]⟩),(some 0,fun p s=>⟨((eL tV s.c8)::(ra 4 ((eL tP s.ra5)::((i s.is6)::(ra 9 ((i s.is6)::((eL tV s.c8)::((i (↑(List.length s.c8):Int))::((b (decide (s.is6 < (↑(List.length s.c8):Int))))::(ra 45 [])))))))))),[]⟩)],Pc1⟩
theorem Pc2:nb5.Ok:=Lo.ok [nb4.pr] (by kernel_rfl) (.cons Pc0 .nil) rfl (.cons (fun a H=>by kernel_rfl) (.cons (fun a H=>by kernel_rfl) .nil)) fun p s=>(.sel (Nat.beq s.ph 1) (.of @aa4 (fun F _ _ _ _ _=>by unfold aa4;(repeat' apply k8 (f:=F))<;>rfl) (by kernel_rfl)) (.of @aa3 (fun F _ _ _ _ _=>by unfold aa3;(repeat' apply k8 (f:=F))<;>rfl) (by kernel_rfl)))
noncomputable def va4 (x:List V3):Option (b7×List c7):=let t1:=(kb3 (rt tV x));let t2:=(lp (Ja3 (⟨⟩:ca8)) (⟨0,(rt tV x),0,[]⟩:A2));(sl (okE tV x) (sl (Fb9 (rt tV x)) (sl (t1 != 0) (some ((.tup [(.v (.slice none 0 0)),(i t1)]),[])) (sl ((cnE tV x)&&true) (sl (Nat.beq t2.1 1) (some ((.tup [(.v (.slice none 0 0)),(i 0)]),[])) (sl (Nat.beq t2.1 2) (some ((.tup [(eL tP t2.2.ra5),(i 0)]),[])) none)) none)) none) none)
noncomputable def Gb1 (x:List V3):List Pln×Int:=M4 (two (r1L tP) r1I) (va4 x)
noncomputable def Gb2 (x:List V3):Bool:=okO (two (r1L tP) r1I) (va4 x)
noncomputable def vc2:Sum:=V6 (oa4 tV) (fun x=>.guard (Gb2 x) (.ret ((two (r1L tP) r1I).enc (Gb1 x),[])))
theorem td4:g9 prog G 71 vc2:=Ta2 (bd b71 bd9) (two (r1L tP) r1I) (o:=va4) fun x=>xa9 (.s .p (.s .p (.s .p (.s .p (.s (.s .p (.b (.u nb5.ls))) .p))))) [nb5.pr] (by kernel_rfl) (.cons Pc2 .nil) (by kernel_rfl)
noncomputable def Rb0:List (Nat×Sum):=[(68,Da5),(78,Vb9)]
theorem Pc3:j9 prog G Rb0:=⟨Oa8,uc9,trivial⟩
structure W4 where
 is4:Int
structure z8 where
 ph:Nat
 is6:Int
 f9:List Int
 b8:Int
 ns5:Nat
 eh1:List (List b7)
noncomputable def lc9 (p:W4) (s:z8):St:=⟨(ra 3 ((.ptr 0 0 0 0)::((i p.is4)::((.v (.slice none 0 0))::((i s.is6)::(ra 127 [])))))),[⟨0,2,[[(eL tI s.f9),(i s.b8)]],true,false,0⟩]⟩
noncomputable def mc0 (p:W4) (s:z8):St:=⟨(ra 3 ((.ptr 0 0 0 0)::((i p.is4)::((.sl 1 0 s.ns5 0)::((i s.is6)::(ra 127 [])))))),[⟨0,2,[[(eL tI s.f9),(i s.b8)]],true,false,0⟩,⟨27,3,s.eh1,true,false,0⟩]⟩
noncomputable def zc2 (p:W4) (s:z8):St:=(sel (Nat.beq s.ph 1) (mc0 p s) (lc9 p s))
noncomputable def na1 {α:Type} (k:z8→α) (e:Nat→α) (z:α) (p:W4) (s:z8):α:=let t1:=(p4 ⟨17,(rt tI s.f9),s.b8⟩);let t2:=(p4 ⟨17,(rt tI (rt tI s.f9)),t1.b8⟩);let t3:=(p4 ⟨17,(rt tI (rt tI (rt tI s.f9))),t2.b8⟩);let t4:=(p4 ⟨6,(rt tI (rt tI (rt tI (rt tI s.f9)))),t3.b8⟩);(sl (decide (s.is6 < p.is4)) (sl ((cnE tI s.f9)&&true) (sl (Nat.beq t1.alt 1) (sl ((cnE tI (rt tI s.f9))&&true) (sl (Nat.beq t2.alt 1) (sl ((cnE tI (rt tI (rt tI s.f9)))&&true) (sl (Nat.beq t3.alt 1) (sl ((cnE tI (rt tI (rt tI (rt tI s.f9))))&&true) (sl (Nat.beq t4.alt 1) (sl (t4.is0==1) (sl (decide (s.is6 > 1)) z (sl (t4.is0==2) (sl (decide (s.is6 > 0)) z (sl (t4.is0==3) (sl (decide (s.is6 > 2)) z (k ⟨1,(W (s.is6+1)),(rt tI (rt tI (rt tI (rt tI s.f9)))),t4.b8,1,[[(i (W (t1.is0 - 8))),(i (W (t2.is0 - 8))),(i (W (t3.is0 - 8)))]]⟩)) (k ⟨1,(W (s.is6+1)),(rt tI (rt tI (rt tI (rt tI s.f9)))),t4.b8,1,[[(i (W (t1.is0 - 8))),(i (W (t2.is0 - 8))),(i (W (t3.is0 - 8)))]]⟩))) (sl (t4.is0==3) (sl (decide (s.is6 > 2)) z (k ⟨1,(W (s.is6+1)),(rt tI (rt tI (rt tI (rt tI s.f9)))),t4.b8,1,[[(i (W (t1.is0 - 8))),(i (W (t2.is0 - 8))),(i (W (t3.is0 - 8)))]]⟩)) (k ⟨1,(W (s.is6+1)),(rt tI (rt tI (rt tI (rt tI s.f9)))),t4.b8,1,[[(i (W (t1.is0 - 8))),(i (W (t2.is0 - 8))),(i (W (t3.is0 - 8)))]]⟩)))) (sl (t4.is0==2) (sl (decide (s.is6 > 0)) z (sl (t4.is0==3) (sl (decide (s.is6 > 2)) z (k ⟨1,(W (s.is6+1)),(rt tI (rt tI (rt tI (rt tI s.f9)))),t4.b8,1,[[(i (W (t1.is0 - 8))),(i (W (t2.is0 - 8))),(i (W (t3.is0 - 8)))]]⟩)) (k ⟨1,(W (s.is6+1)),(rt tI (rt tI (rt tI (rt tI s.f9)))),t4.b8,1,[[(i (W (t1.is0 - 8))),(i (W (t2.is0 - 8))),(i (W (t3.is0 - 8)))]]⟩))) (sl (t4.is0==3) (sl (decide (s.is6 > 2)) z (k ⟨1,(W (s.is6+1)),(rt tI (rt tI (rt tI (rt tI s.f9)))),t4.b8,1,[[(i (W (t1.is0 - 8))),(i (W (t2.is0 - 8))),(i (W (t3.is0 - 8)))]]⟩)) (k ⟨1,(W (s.is6+1)),(rt tI (rt tI (rt tI (rt tI s.f9)))),t4.b8,1,[[(i (W (t1.is0 - 8))),(i (W (t2.is0 - 8))),(i (W (t3.is0 - 8)))]]⟩)))) z) z) z) z) z) z) z) z) (e 1))
noncomputable def I6 {α:Type} (k:z8→α) (e:Nat→α) (z:α) (p:W4) (s:z8):α:=let t1:=(p4 ⟨17,(rt tI s.f9),s.b8⟩);let a0:=(e8 s.eh1 (0+(W (s.is6 - 1)).toNat));let a1:=(Nat.beq s.ns5 (len s.eh1)&&Nat.ble ((s.ns5+1)*24) room);let a3:=(d9 (e8 s.eh1 (0+(W (s.is6 - 2)).toNat)) 0);let a4:=((Nat.blt (0+(W (s.is6 - 1)).toNat) (len s.eh1))&&(Nat.ble (2+1) (len a0)));let a5:=(i (W (Int.tdiv (W ((toI (hdA (tlA (d9 a0 0))))+(toI (hdA (tlA a3))))) 2)));let a6:=(i (W (Int.tdiv (W ((toI (hdA (d9 a0 0)))+(toI (hdA a3)))) 2)));let a7:=(app s.eh1 [[a6,a5,(i (W (Int.tdiv (W ((toI (hdA (tlA (tlA (d9 a0 0)))))+(toI (hdA (tlA (tlA a3)))))) 2)))]]);let a8:=(inB (W (s.is6 - 1)) s.ns5);let a9:=(i (toI (hdA (tlA (d9 a0 0)))));let a10:=((Nat.blt (0+(W (s.is6 - 1)).toNat) (len s.eh1))&&(Nat.ble (0+3) (len a0)));let a11:=(i (toI (hdA (d9 a0 0))));let a12:=(app s.eh1 [[a11,a9,(i (toI (hdA (tlA (tlA (d9 a0 0))))))]]);let a13:=(i (toI (hdA (d9 a0 2))));let a14:=(rt tI (rt tI s.f9));let t2:=(p4 ⟨17,a14,t1.b8⟩);let t3:=(p4 ⟨17,(rt tI a14),t2.b8⟩);let a2:=(rt tI (rt tI a14));let t4:=(p4 ⟨6,a2,t3.b8⟩);(sl (decide (s.is6 < p.is4)) (sl ((cnE tI s.f9)&&true) (sl (Nat.beq t1.alt 1) (sl ((cnE tI (rt tI s.f9))&&true) (sl (Nat.beq t2.alt 1) (sl ((cnE tI a14)&&true) (sl (Nat.beq t3.alt 1) (sl ((cnE tI (rt tI a14))&&true) (sl (Nat.beq t4.alt 1) (sl (t4.is0==1) (sl (decide (s.is6 > 1)) (sl a8 (sl (a10&&(K6 [(CK.int .i64),(CK.int .i64),(CK.int .i64)] (d9 a0 0))) (sl (inB (W (s.is6 - 2)) s.ns5) (sl (((Nat.blt (0+(W (s.is6 - 2)).toNat) (len s.eh1))&&(Nat.ble (0+3) (len (e8 s.eh1 (0+(W (s.is6 - 2)).toNat)))))&&(K6 [(CK.int .i64),(CK.int .i64),(CK.int .i64)] a3)) (sl (t4.is0==2) (sl (decide (s.is6 > 0)) (sl a8 (sl (a10&&(K6 [(CK.int .i64),(CK.int .i64),(CK.int .i64)] (d9 a0 0))) (sl (t4.is0==3) (sl (decide (s.is6 > 2)) (sl a8 (sl (a4&&(K6 [(CK.int .i64)] (d9 a0 2))) (sl a1 (k ⟨1,(W (s.is6+1)),a2,t4.b8,(s.ns5+1),(app s.eh1 [[a11,a9,a13]])⟩) z) z) z) (sl a1 (k ⟨1,(W (s.is6+1)),a2,t4.b8,(s.ns5+1),a12⟩) z)) (sl a1 (k ⟨1,(W (s.is6+1)),a2,t4.b8,(s.ns5+1),a12⟩) z)) z) z) (sl (t4.is0==3) (sl (decide (s.is6 > 2)) (sl a8 (sl (a4&&(K6 [(CK.int .i64)] (d9 a0 2))) (sl a1 (k ⟨1,(W (s.is6+1)),a2,t4.b8,(s.ns5+1),(app s.eh1 [[a6,a5,a13]])⟩) z) z) z) (sl a1 (k ⟨1,(W (s.is6+1)),a2,t4.b8,(s.ns5+1),a7⟩) z)) (sl a1 (k ⟨1,(W (s.is6+1)),a2,t4.b8,(s.ns5+1),a7⟩) z))) (sl (t4.is0==3) (sl (decide (s.is6 > 2)) (sl a8 (sl (a4&&(K6 [(CK.int .i64)] (d9 a0 2))) (sl a1 (k ⟨1,(W (s.is6+1)),a2,t4.b8,(s.ns5+1),(app s.eh1 [[a6,a5,a13]])⟩) z) z) z) (sl a1 (k ⟨1,(W (s.is6+1)),a2,t4.b8,(s.ns5+1),a7⟩) z)) (sl a1 (k ⟨1,(W (s.is6+1)),a2,t4.b8,(s.ns5+1),a7⟩) z))) z) z) z) z) (sl (t4.is0==2) (sl (decide (s.is6 > 0)) (sl a8 (sl (a10&&(K6 [(CK.int .i64),(CK.int .i64),(CK.int .i64)] (d9 a0 0))) (sl (t4.is0==3) (sl (decide (s.is6 > 2)) (sl a8 (sl (a4&&(K6 [(CK.int .i64)] (d9 a0 2))) (sl a1 (k ⟨1,(W (s.is6+1)),a2,t4.b8,(s.ns5+1),(app s.eh1 [[a11,a9,a13]])⟩) z) z) z) (sl a1 (k ⟨1,(W (s.is6+1)),a2,t4.b8,(s.ns5+1),a12⟩) z)) (sl a1 (k ⟨1,(W (s.is6+1)),a2,t4.b8,(s.ns5+1),a12⟩) z)) z) z) (sl (t4.is0==3) (sl (decide (s.is6 > 2)) (sl a8 (sl (a4&&(K6 [(CK.int .i64)] (d9 a0 2))) (sl a1 (k ⟨1,(W (s.is6+1)),a2,t4.b8,(s.ns5+1),(app s.eh1 [[(i (W (t1.is0 - 8))),(i (W (t2.is0 - 8))),a13]])⟩) z) z) z) (sl a1 (k ⟨1,(W (s.is6+1)),a2,t4.b8,(s.ns5+1),(app s.eh1 [[(i (W (t1.is0 - 8))),(i (W (t2.is0 - 8))),(i (W (t3.is0 - 8)))]])⟩) z)) (sl a1 (k ⟨1,(W (s.is6+1)),a2,t4.b8,(s.ns5+1),(app s.eh1 [[(i (W (t1.is0 - 8))),(i (W (t2.is0 - 8))),(i (W (t3.is0 - 8)))]])⟩) z))) (sl (t4.is0==3) (sl (decide (s.is6 > 2)) (sl a8 (sl (a4&&(K6 [(CK.int .i64)] (d9 a0 2))) (sl a1 (k ⟨1,(W (s.is6+1)),a2,t4.b8,(s.ns5+1),(app s.eh1 [[(i (W (t1.is0 - 8))),(i (W (t2.is0 - 8))),a13]])⟩) z) z) z) (sl a1 (k ⟨1,(W (s.is6+1)),a2,t4.b8,(s.ns5+1),(app s.eh1 [[(i (W (t1.is0 - 8))),(i (W (t2.is0 - 8))),(i (W (t3.is0 - 8)))]])⟩) z)) (sl a1 (k ⟨1,(W (s.is6+1)),a2,t4.b8,(s.ns5+1),(app s.eh1 [[(i (W (t1.is0 - 8))),(i (W (t2.is0 - 8))),(i (W (t3.is0 - 8)))]])⟩) z)))) (sl (t4.is0==2) (sl (decide (s.is6 > 0)) (sl a8 (sl (a10&&(K6 [(CK.int .i64),(CK.int .i64),(CK.int .i64)] (d9 a0 0))) (sl (t4.is0==3) (sl (decide (s.is6 > 2)) (sl a8 (sl (a4&&(K6 [(CK.int .i64)] (d9 a0 2))) (sl a1 (k ⟨1,(W (s.is6+1)),a2,t4.b8,(s.ns5+1),(app s.eh1 [[a11,a9,a13]])⟩) z) z) z) (sl a1 (k ⟨1,(W (s.is6+1)),a2,t4.b8,(s.ns5+1),a12⟩) z)) (sl a1 (k ⟨1,(W (s.is6+1)),a2,t4.b8,(s.ns5+1),a12⟩) z)) z) z) (sl (t4.is0==3) (sl (decide (s.is6 > 2)) (sl a8 (sl (a4&&(K6 [(CK.int .i64)] (d9 a0 2))) (sl a1 (k ⟨1,(W (s.is6+1)),a2,t4.b8,(s.ns5+1),(app s.eh1 [[(i (W (t1.is0 - 8))),(i (W (t2.is0 - 8))),a13]])⟩) z) z) z) (sl a1 (k ⟨1,(W (s.is6+1)),a2,t4.b8,(s.ns5+1),(app s.eh1 [[(i (W (t1.is0 - 8))),(i (W (t2.is0 - 8))),(i (W (t3.is0 - 8)))]])⟩) z)) (sl a1 (k ⟨1,(W (s.is6+1)),a2,t4.b8,(s.ns5+1),(app s.eh1 [[(i (W (t1.is0 - 8))),(i (W (t2.is0 - 8))),(i (W (t3.is0 - 8)))]])⟩) z))) (sl (t4.is0==3) (sl (decide (s.is6 > 2)) (sl a8 (sl (a4&&(K6 [(CK.int .i64)] (d9 a0 2))) (sl a1 (k ⟨1,(W (s.is6+1)),a2,t4.b8,(s.ns5+1),(app s.eh1 [[(i (W (t1.is0 - 8))),(i (W (t2.is0 - 8))),a13]])⟩) z) z) z) (sl a1 (k ⟨1,(W (s.is6+1)),a2,t4.b8,(s.ns5+1),(app s.eh1 [[(i (W (t1.is0 - 8))),(i (W (t2.is0 - 8))),(i (W (t3.is0 - 8)))]])⟩) z)) (sl a1 (k ⟨1,(W (s.is6+1)),a2,t4.b8,(s.ns5+1),(app s.eh1 [[(i (W (t1.is0 - 8))),(i (W (t2.is0 - 8))),(i (W (t3.is0 - 8)))]])⟩) z)))) z) z) z) z) z) z) z) z) (e 2))
noncomputable def Da6 (p:W4) (s:z8):Stp z8:=(sel (Nat.beq s.ph 1) (I6 .next .exit .fail p s) (na1 .next .exit .fail p s))
noncomputable def db6:Lo W4 z8:=⟨En Rb0,0,bf4,[1,1,1,1,0,1,4,4],[3,4,5,6],.p,[⟨(ru2 3 ((.s (.o (.ptr 0 0 0 0)))::((.s (.o (.int .i64)))::((.s (.o .nil))::((.s (.o (.int .i64)))::(ru2 127 [])))))),[⟨0,2,true,(some [[(.c 1 (nL tI)),(.o (.int .i64))]])⟩],fun a H=>(⟨(toI (slT a 4))⟩,⟨0,(toI (slT a 6)),(rL tI (slT (rwT (elT H 0) 0) 0)),(toI (slT (rwT (elT H 0) 0) 1)),0,[]⟩)⟩,⟨(ru2 3 ((.s (.o (.ptr 0 0 0 0)))::((.s (.o (.int .i64)))::((.s (.o (.sl 1 0 (some 0) none)))::((.s (.o (.int .i64)))::(ru2 127 [])))))),[⟨0,2,true,(some [[(.c 1 (nL tI)),(.o (.int .i64))]])⟩,⟨27,3,true,none⟩],fun a H=>(⟨(toI (slT a 4))⟩,⟨1,(toI (slT a 6)),(rL tI (slT (rwT (elT H 0) 0) 0)),(toI (slT (rwT (elT H 0) 0) 1)),(slN (slT a 5)),(elT H 1)⟩)⟩],Da6,[(some 0,fun p s=>⟨(ra 3 ((.ptr 0 0 0 0)::((i p.is4)::((.v (.slice none 0 0))::((i s.is6)::(ra 11 ((i s.is6)::((i p.is4)::((b (decide (s.is6 < p.is4)))::(ra 113 [])))))))))),[⟨0,2,[[(eL tI s.f9),(i s.b8)]],true,false,0⟩]⟩),(some 0,fun p s=>⟨(ra 3 ((.ptr 0 0 0 0)::((i p.is4)::((.sl 1 0 s.ns5 0)::((i s.is6)::(ra 11 ((i s.is6)::((i p.is4)::((b (decide (s.is6 < p.is4)))::(ra 113 [])))))))))),[⟨0,2,[[(eL tI s.f9),(i s.b8)]],true,false,0⟩,⟨27,3,s.eh1,true,false,0⟩]⟩)],zc2⟩
theorem zc3:db6.Ok:=Lo.ok [] (by kernel_rfl) .nil rfl (.cons (fun a H=>by kernel_rfl) (.cons (fun a H=>by kernel_rfl) .nil)) fun p s=>(.sel (Nat.beq s.ph 1) (.of @I6 (fun F _ _ _ _ _=>by unfold I6;(repeat' apply k8 (f:=F))<;>rfl) (by kernel_rfl)) (.of @na1 (fun F _ _ _ _ _=>by unfold na1;(repeat' apply k8 (f:=F))<;>rfl) (by kernel_rfl)))
noncomputable def Ja4 (x:List Int):Option (b7×List c7):=let t1:=(p4 ⟨5,(rt tI x),0⟩);let t2:=(lp (Da6 (⟨(W (4+t1.is0))⟩:W4)) (⟨0,0,(rt tI (rt tI x)),t1.b8,0,[]⟩:z8));let t3:=(Ga1 []);let t4:=(Ga1 (lsL tV t2.2.ns5 (fun k=>e8 t2.2.eh1 (0+k))));let a0:=(d9 (e8 t2.2.eh1 0) 0);let a1:=(i (toI (hdA (tlA (tlA a0)))));let a2:=(i (W ((toI (hdA a0)) - 3)));let a3:=(setAt t2.2.eh1 1 (S4 (e8 t2.2.eh1 1) 0 [a2,(i (toI (hdA (tlA a0)))),a1]));let a4:=(i (W ((toI (hdA (tlA a0))) - 2)));(sl ((cnE tI x)&&true) (sl (Nat.beq t1.alt 1) (sl ((cnE tI (rt tI x))&&true) (sl (Nat.beq t2.1 1) (sl (Pa1 []) (sl t3 none (some ((.v (.slice none 0 0)),[]))) none) (sl (Nat.beq t2.1 2) (sl (okL tV t2.2.ns5 (fun k=>e8 t2.2.eh1 (0+k))) (sl (Pa1 (lsL tV t2.2.ns5 (fun k=>e8 t2.2.eh1 (0+k)))) (sl t4 (sl (inB 0 t2.2.ns5) (sl (((Nat.blt 0 (len t2.2.eh1))&&(Nat.ble (0+3) (len (e8 t2.2.eh1 0))))&&(K6 [(CK.int .i64),(CK.int .i64),(CK.int .i64)] a0)) (sl (inB 1 t2.2.ns5) (sl ((Nat.blt 1 (len t2.2.eh1))&&(Nat.ble (0+3) (len (e8 t2.2.eh1 1)))) (sl (inB 2 t2.2.ns5) (sl ((Nat.blt 2 (len a3))&&(Nat.ble (0+3) (len (e8 a3 2)))) (sl (inB 3 t2.2.ns5) (sl ((Nat.blt 3 (len (setAt a3 2 (S4 (e8 a3 2) 0 [(i (toI (hdA a0))),a4,a1]))))&&(Nat.ble (0+3) (len (e8 (setAt a3 2 (S4 (e8 a3 2) 0 [(i (toI (hdA a0))),a4,a1])) 3)))) (some ((.sl 0 0 t2.2.ns5 0),[⟨27,3,(setAt (setAt a3 2 (S4 (e8 a3 2) 0 [(i (toI (hdA a0))),a4,a1])) 3 (S4 (e8 (setAt a3 2 (S4 (e8 a3 2) 0 [(i (toI (hdA a0))),a4,a1])) 3) 0 [(i (toI (hdA a0))),(i (toI (hdA (tlA a0)))),(i (W ((toI (hdA (tlA (tlA a0)))) - 1)))])),true,false,0⟩])) none) none) none) none) none) none) none) none) (some ((.sl 0 0 t2.2.ns5 0),[⟨27,3,t2.2.eh1,true,false,0⟩]))) none) none) none)) none) none) none)
noncomputable def N9 (x:List Int):List V3:=M4 (one (r1L tV)) (Ja4 x)
noncomputable def Ya9 (x:List Int):Bool:=okO (one (r1L tV)) (Ja4 x)
noncomputable def td5:Sum:=V6 (oa4 tI) (fun x=>.guard (Ya9 x) (.ret ((one (r1L tV)).enc (N9 x),[])))
theorem cd0:g9 prog G 25 td5:=Ta2 (bd b25 Pc3) (one (r1L tV)) (o:=Ja4) fun x=>xa9 (.s .p (.s .p (.s .p (.s .p (.s (.s .p (.b (.u db6.ls))) .p))))) [db6.pr] (by kernel_rfl) (.cons zc3 .nil) (by kernel_rfl)
end Go.Ev.Ce
end
section
namespace Go.Ev.Ce
open Go Go.Ev Go.Ev.L Go.Proofs
set_option maxRecDepth 100000
noncomputable def vc3:List (Nat×Sum):=[]
theorem td6:j9 prog G vc3:=trivial
structure Ja5 where
 i9:List Pln
 Ua6:List Pln
structure ba9 where
 is5:Int
noncomputable def cd1 (p:Ja5) (s:ba9):St:=⟨((eL tP p.i9)::((eL tP p.Ua6)::(ra 3 ((i s.is5)::(ra 20 []))))),[]⟩
noncomputable def va5 {α:Type} (k:ba9→α) (e:Nat→α) (z:α) (p:Ja5) (s:ba9):α:=(sl (decide (s.is5 < (↑(List.length p.i9):Int))) (sl (inB s.is5 (List.length p.i9)) (sl (inB s.is5 (List.length p.Ua6)) (sl (!(((gL tP p.i9 s.is5.toNat).n.x==(gL tP p.Ua6 s.is5.toNat).n.x)&&(((gL tP p.i9 s.is5.toNat).n.y==(gL tP p.Ua6 s.is5.toNat).n.y)&&(((gL tP p.i9 s.is5.toNat).n.z==(gL tP p.Ua6 s.is5.toNat).n.z)&&(((gL tP p.i9 s.is5.toNat).b==(gL tP p.Ua6 s.is5.toNat).b)&&true))))) (e 1) (k ⟨(W (s.is5+1))⟩)) z) z) (e 2))
noncomputable def Ba1 (p:Ja5) (s:ba9):Stp ba9:=va5 .next .exit .fail p s
noncomputable def wb6:Lo Ja5 ba9:=⟨En vc3,0,bf3,[1,1,0,1,4,4],[0,1,5],.p,[⟨((.s (.c 4 (nL tP)))::((.s (.c 4 (nL tP)))::(ru2 3 ((.s (.o (.int .i64)))::(ru2 20 []))))),[],fun a H=>(⟨(rL tP (slT a 0)),(rL tP (slT a 1))⟩,⟨(toI (slT a 5))⟩)⟩],Ba1,[(none,fun p s=>⟨[(b false)],[]⟩),(some 0,fun p s=>⟨((eL tP p.i9)::((eL tP p.Ua6)::(ra 3 ((i s.is5)::(ra 5 ((i s.is5)::((eL tP p.i9)::((i (↑(List.length p.i9):Int))::((b (decide (s.is5 < (↑(List.length p.i9):Int))))::(ra 11 [])))))))))),[]⟩)],cd1⟩
theorem cd2:wb6.Ok:=Lo.ok [] (by kernel_rfl) .nil rfl (.cons (fun a H=>by kernel_rfl) .nil) fun p s=>(.of @va5 (fun F _ _ _ _ _=>by unfold va5;(repeat' apply k8 (f:=F))<;>rfl) (by kernel_rfl))
noncomputable def db7 (x:List Pln) (y:List Pln):Option (b7×List c7):=let t1:=(lp (Ba1 (⟨(rt tP x),(rt tP y)⟩:Ja5)) (⟨0⟩:ba9));(sl ((↑(List.length x):Int) != (↑(List.length y):Int)) (some ((b false),[])) (sl ((cnE tP x)&&((cnE tP y)&&true)) (sl (Nat.beq t1.1 1) (some ((b false),[])) (sl (Nat.beq t1.1 2) (some ((b true),[])) none)) none))
noncomputable def db8 (x:List Pln) (y:List Pln):Bool:=M4 (one r1B) (db7 x y)
noncomputable def db9 (x:List Pln) (y:List Pln):Bool:=okO (one r1B) (db7 x y)
noncomputable def Pc4:Sum:=ga1 (oa4 tP) (oa4 tP) (fun x y=>.guard (db9 x y) (.ret ((one r1B).enc (db8 x y),[])))
theorem Gd5:g9 prog G 23 Pc4:=Oa2 (bd b23 td6) (one r1B) (o:=db7) fun x y=>xa9 (.s .p (.s .p (.s (.s .p (.b (.u wb6.ls))) .p))) [wb6.pr] (by kernel_rfl) (.cons cd2 .nil) (by kernel_rfl)
structure Pe1 where
 is6:Int
structure Pe2 where
 ns5:Nat
 eh0:List (List b7)
end Go.Ev.Ce
end
section
namespace Go.Ev.Ce
open Go Go.Ev Go.Ev.L Go.Proofs
set_option maxRecDepth 100000
structure Gd6 where
 alt:Nat
 ns0:Nat
 eh0:List (List b7)
end Go.Ev.Ce
end
section
namespace Go.Ev.Ce
open Go Go.Ev Go.Ev.L Go.Proofs
set_option maxRecDepth 100000
structure Pe3 where
 i9:List Pln
 d6:Int
 b8:Int
 d8:Int
 g8:Int
structure Pe4 where
 is5:Int
end Go.Ev.Ce
end
section
namespace Go.Ev.Ce
open Go Go.Ev Go.Ev.L Go.Proofs
set_option maxRecDepth 100000
noncomputable def td7:List (Nat×Sum):=[]
theorem cd3:j9 prog G td7:=trivial
noncomputable def va6 (x:V3) (y:V3):V3:=(⟨(W (x.x - y.x)),(W (x.y - y.y)),(W (x.z - y.z))⟩:V3)
noncomputable def Gb3:Sum:=ga1 (K9 tV) (K9 tV) (fun x y=>.ret ((one r1V).enc (va6 x y),[]))
theorem dc1:g9 prog G 108 Gb3:=Da0 (bd mf1 cd3) fun x y=>A6 (by kernel_rfl)
noncomputable def cd4:List (Nat×Sum):=[(108,Gb3)]
theorem Pc5:j9 prog G cd4:=⟨dc1,trivial⟩
noncomputable def ya2 (x:Pln):Pln:=let t1:=(va6 (⟨0,0,0⟩:V3) x.n);(⟨t1,(W (0 - x.b))⟩:Pln)
noncomputable def dc2:Sum:=V6 (K9 tP) (fun x=>.ret ((one r1P).enc (ya2 x),[]))
theorem cd5:g9 prog G 52 dc2:=vb1 (bd b52 Pc5) fun x=>A6 (by kernel_rfl)
end Go.Ev.Ce
end
section
namespace Go.Ev.Ce
open Go Go.Ev Go.Ev.L Go.Proofs
set_option maxRecDepth 100000
noncomputable def cd6:List (Nat×Sum):=[(186,Va4)]
theorem Pc6:j9 prog G cd6:=⟨qb6,trivial⟩
noncomputable def Ja6 (x:V3):Option (b7×List c7):=let t1:=(Z5 [x.x,x.y,x.z]);(sl (Z6 [x.x,x.y,x.z]) (sl (t1==0) (some ((.tup [(.agg [(i 0),(i 0),(i 0)]),(i 0)]),[])) (sl (t1==0) none (sl (t1==0) none (sl (t1==0) none (some ((.tup [(.agg [(i (W (Int.tdiv x.x t1))),(i (W (Int.tdiv x.y t1))),(i (W (Int.tdiv x.z t1)))]),(i t1)]),[])))))) none)
noncomputable def ya3 (x:V3):V3×Int:=M4 (two r1V r1I) (Ja6 x)
noncomputable def Za0 (x:V3):Bool:=okO (two r1V r1I) (Ja6 x)
noncomputable def dc3:Sum:=V6 (K9 tV) (fun x=>.guard (Za0 x) (.ret ((two r1V r1I).enc (ya3 x),[])))
theorem cd7:g9 prog G 198 dc3:=Ta2 (bd qf9 Pc6) (two r1V r1I) (o:=Ja6) fun x=>A6 (by kernel_rfl)
noncomputable def mc1:List (Nat×Sum):=[(85,vb9),(108,Gb3),(142,mb5),(198,dc3),(83,Ta4)]
theorem dc4:j9 prog G mc1:=⟨Fb4,dc1,Fb1,cd7,Ya7,trivial⟩
noncomputable def qa0 (x:V3) (y:V3) (z:V3):Option (b7×List c7):=let t1:=(ua9 x);let t2:=(ua9 y);let t3:=(ua9 z);let t4:=(va6 y x);let t5:=(va6 z x);let t6:=(ca5 t4 t5);let t7:=(ya3 t6);let t8:=(r7 t7.1 x);(sl (va0 x) (sl (!t1) (some ((.tup [(.agg [(i 0),(i 0),(i 0),(i 0)]),(b false)]),[])) (sl (va0 y) (sl (!t2) (some ((.tup [(.agg [(i 0),(i 0),(i 0),(i 0)]),(b false)]),[])) (sl (va0 z) (sl (!t3) (some ((.tup [(.agg [(i 0),(i 0),(i 0),(i 0)]),(b false)]),[])) (sl (Za0 t6) (some ((.tup [(.agg [(i t7.1.x),(i t7.1.y),(i t7.1.z),(i t8)]),(b (decide (t7.2 > 0)))]),[])) none)) none)) none)) none)
noncomputable def H7 (x:V3) (y:V3) (z:V3):Pln×Bool:=M4 (two r1P r1B) (qa0 x y z)
noncomputable def ha3 (x:V3) (y:V3) (z:V3):Bool:=okO (two r1P r1B) (qa0 x y z)
noncomputable def Va7:Sum:=wc7 (K9 tV) (K9 tV) (K9 tV) (fun x y z=>.guard (ha3 x y z) (.ret ((two r1P r1B).enc (H7 x y z),[])))
theorem qb8:g9 prog G 177 Va7:=Se3 (bd pf8 dc4) (two r1P r1B) (o:=qa0) fun x y z=>A6 (by kernel_rfl)
noncomputable def cd8:List (Nat×Sum):=[(140,mb6),(85,vb9),(83,Ta4),(141,mb7)]
theorem Pc7:j9 prog G cd8:=⟨Fb2,Fb4,Ya7,Fb3,trivial⟩
noncomputable def Ja7 (x:Pln) (y:V3):Option (b7×List c7):=let t1:=(Aa5 x);let t2:=(ua9 y);let t3:=(r7 x.n y);let t4:=(ca6 t3 x.b);(sl (Aa6 x) (sl (!t1) (some ((i 0),[])) (sl (va0 y) (sl (!t2) (some ((i 0),[])) (sl (ca7 t3 x.b) (some ((i t4),[])) none)) none)) none)
noncomputable def oa6 (x:Pln) (y:V3):Int:=M4 (one r1I) (Ja7 x y)
noncomputable def oa7 (x:Pln) (y:V3):Bool:=okO (one r1I) (Ja7 x y)
noncomputable def Za1:Sum:=ga1 (K9 tP) (K9 tV) (fun x y=>.guard (oa7 x y) (.ret ((one r1I).enc (oa6 x y),[])))
theorem nb6:g9 prog G 88 Za1:=Oa2 (bd b88 Pc7) (one r1I) (o:=Ja7) fun x y=>A6 (by kernel_rfl)
structure Ra4 where
 fa6:Int
 fa7:Int
 fa8:Int
 d6:Int
 b8:Int
 d8:Int
 g8:Int
noncomputable def Pc8:List (Nat×Sum):=[(88,Za1)]
theorem zc4:j9 prog G Pc8:=⟨nb6,trivial⟩
structure Ra5 where
 alt:Nat
 bs0:Bool
noncomputable def sa4 {α:Type} (kk:Ra5→α) (x:Ra4):α:=let t1:=(oa6 (⟨(⟨x.d6,x.b8,x.d8⟩:V3),x.g8⟩:Pln) (⟨x.fa6,x.fa7,x.fa8⟩:V3));(sl (oa7 (⟨(⟨x.d6,x.b8,x.d8⟩:V3),x.g8⟩:Pln) (⟨x.fa6,x.fa7,x.fa8⟩:V3)) (kk ⟨1,(t1 != 0)⟩) (kk ⟨0,false⟩))
noncomputable def Ra6 (x:Ra4):Ra5:=sa4 (fun r=>r) x
noncomputable def eb0 (x:Ra4) (r:Ra5):DT (b7×List c7):=(.ite (Nat.beq r.alt 1) (.ret ((b r.bs0),[⟨0,4,[[(i x.d6),(i x.b8),(i x.d8),(i x.g8)]],true,false,0⟩])) .fail)
theorem cd9 {α β:Type} (F:α→β) (kk:Ra5→α) (x:Ra4):F (sa4 kk x)=sa4 (fun r=>F (kk r)) x:=by unfold sa4;(repeat' apply k8 (f:=F))<;>rfl
noncomputable def Rb1:Sum:=mb4 ⟨[(.agg [(.o (.int .i64)),(.o (.int .i64)),(.o (.int .i64))]),(.s (.o (.ptr 0 0 0 0)))],[⟨0,4,true,(some [[(.o (.int .i64)),(.o (.int .i64)),(.o (.int .i64)),(.o (.int .i64))]])⟩],fun a H=>(⟨(toI (slT (cellsOf (slT a 0)) 0)),(toI (slT (cellsOf (slT a 0)) 1)),(toI (slT (cellsOf (slT a 0)) 2)),(toI (slT (rwT (elT H 0) 0) 0)),(toI (slT (rwT (elT H 0) 0) 1)),(toI (slT (rwT (elT H 0) 0) 2)),(toI (slT (rwT (elT H 0) 0) 3))⟩,())⟩ (fun x=>eb0 x (Ra6 x))
theorem Pc9:g9 prog G 197 Rb1:=X4 (enc:=fun x=>⟨[(.agg [(i x.fa6),(i x.fa7),(i x.fa8)]),(.ptr 0 0 0 0)],[⟨0,4,[[(i x.d6),(i x.b8),(i x.d8),(i x.g8)]],true,false,0⟩]⟩) (fun a H=>by kernel_rfl) (bd qf8 zc4) fun x=>A6 (Eq.trans (b:=sa4 (fun r=>(eb0 x r).run) x) (by kernel_rfl) (cd9 (fun r=>(eb0 x r).run) (fun r=>r) x).symm)
structure X6 where
 c8:List V3
 d6:Int
 b8:Int
 d8:Int
 g8:Int
noncomputable def Ba2:List (Nat×Sum):=[(197,Rb1)]
theorem ib1:j9 prog G Ba2:=⟨Pc9,trivial⟩
structure J0 where
 c8:List V3
 is7:Int
 d6:Int
 b8:Int
 d8:Int
 g8:Int
structure p7 where
 is8:Int
noncomputable def eb1 (p:J0) (s:p7):St:=⟨((eL tV p.c8)::((.fn 197 [(.ptr 0 0 0 0)])::(ra 5 ((i p.is7)::((i s.is8)::(ra 10 [])))))),[⟨0,4,[[(i p.d6),(i p.b8),(i p.d8),(i p.g8)]],true,false,0⟩]⟩
noncomputable def D9 {α:Type} (k:p7→α) (e:Nat→α) (z:α) (p:J0) (s:p7):α:=let t1:=(Ra6 ⟨(gL tV p.c8 s.is8.toNat).x,(gL tV p.c8 s.is8.toNat).y,(gL tV p.c8 s.is8.toNat).z,p.d6,p.b8,p.d8,p.g8⟩);(sl (decide (s.is8 < p.is7)) (sl (inB s.is8 (List.length p.c8)) (sl (Nat.beq t1.alt 1) (sl t1.bs0 (e 1) (k ⟨(W (s.is8+1))⟩)) z) z) (e 2))
noncomputable def G3 (p:J0) (s:p7):Stp p7:=D9 .next .exit .fail p s
noncomputable def ga3:Lo J0 p7:=⟨En Ba2,1,Fd0,[1,0,1,4,4],[0,1,7,8],.p,[⟨((.s (.c 3 (nL tV)))::((.fn 197 [(.o (.ptr 0 0 0 0))])::(ru2 5 ((.s (.o (.int .i64)))::((.s (.o (.int .i64)))::(ru2 10 [])))))),[⟨0,4,true,(some [[(.o (.int .i64)),(.o (.int .i64)),(.o (.int .i64)),(.o (.int .i64))]])⟩],fun a H=>(⟨(rL tV (slT a 0)),(toI (slT a 7)),(toI (slT (rwT (elT H 0) 0) 0)),(toI (slT (rwT (elT H 0) 0) 1)),(toI (slT (rwT (elT H 0) 0) 2)),(toI (slT (rwT (elT H 0) 0) 3))⟩,⟨(toI (slT a 8))⟩)⟩],G3,[(none,fun p s=>⟨[(i s.is8)],[⟨0,4,[[(i p.d6),(i p.b8),(i p.d8),(i p.g8)]],true,false,0⟩]⟩),(some 0,fun p s=>⟨((eL tV p.c8)::((.fn 197 [(.ptr 0 0 0 0)])::(ra 5 ((i p.is7)::((i s.is8)::((b (decide (s.is8 < p.is7)))::(ra 9 []))))))),[⟨0,4,[[(i p.d6),(i p.b8),(i p.d8),(i p.g8)]],true,false,0⟩]⟩)],eb1⟩
theorem eb2:ga3.Ok:=Lo.ok [] (by kernel_rfl) .nil rfl (.cons (fun a H=>by kernel_rfl) .nil) fun p s=>(.of @D9 (fun F _ _ _ _ _=>by unfold D9;(repeat' apply k8 (f:=F))<;>rfl) (by kernel_rfl))
structure X7 where
 alt:Nat
 is0:Int
noncomputable def E6 {α:Type} (kk:X7→α) (x:X6):α:=let t1:=(lp (G3 (⟨(rt tV x.c8),(↑(List.length x.c8):Int),x.d6,x.b8,x.d8,x.g8⟩:J0)) (⟨0⟩:p7));(sl ((cnE tV x.c8)&&true) (sl (Nat.beq t1.1 1) (kk ⟨1,t1.2.is8⟩) (sl (Nat.beq t1.1 2) (kk ⟨1,(-1)⟩) (kk ⟨0,0⟩))) (kk ⟨0,0⟩))
noncomputable def X8 (x:X6):X7:=E6 (fun r=>r) x
noncomputable def ka4 (x:X6) (r:X7):DT (b7×List c7):=(.ite (Nat.beq r.alt 1) (.ret ((i r.is0),[⟨0,4,[[(i x.d6),(i x.b8),(i x.d8),(i x.g8)]],true,false,0⟩])) .fail)
theorem qb9 {α β:Type} (F:α→β) (kk:X7→α) (x:X6):F (E6 kk x)=E6 (fun r=>F (kk r)) x:=by unfold E6;(repeat' apply k8 (f:=F))<;>rfl
noncomputable def Ha0:Sum:=mb4 ⟨[(.s (.c 3 (nL tV))),(.fn 197 [(.o (.ptr 0 0 0 0))])],[⟨0,4,true,(some [[(.o (.int .i64)),(.o (.int .i64)),(.o (.int .i64)),(.o (.int .i64))]])⟩],fun a H=>(⟨(rL tV (slT a 0)),(toI (slT (rwT (elT H 0) 0) 0)),(toI (slT (rwT (elT H 0) 0) 1)),(toI (slT (rwT (elT H 0) 0) 2)),(toI (slT (rwT (elT H 0) 0) 3))⟩,())⟩ (fun x=>ka4 x (X8 x))
theorem nb7:g9 prog G 144 Ha0:=X4 (enc:=fun x=>⟨[(eL tV x.c8),(.fn 197 [(.ptr 0 0 0 0)])],[⟨0,4,[[(i x.d6),(i x.b8),(i x.d8),(i x.g8)]],true,false,0⟩]⟩) (fun a H=>by kernel_rfl) (bd Fe4 ib1) fun x=>xa9 (.s .p (.s (.s .p (.b (.u ga3.ls))) .p)) [ga3.pr] (by kernel_rfl) (.cons eb2 .nil) (Eq.trans (b:=E6 (fun r=>(ka4 x r).run) x) (by kernel_rfl) (qb9 (fun r=>(ka4 x r).run) (fun r=>r) x).symm)
structure O0 where
 c8:List V3
 d6:Int
 b8:Int
 d8:Int
 g8:Int
noncomputable def Za2:List (Nat×Sum):=[(144,Ha0)]
theorem Va8:j9 prog G Za2:=⟨nb7,trivial⟩
structure O1 where
 alt:Nat
 bs0:Bool
noncomputable def B0 {α:Type} (kk:O1→α) (x:O0):α:=let t1:=(X8 ⟨(rt tV x.c8),x.d6,x.b8,x.d8,x.g8⟩);(sl ((cnE tV x.c8)&&true) (sl (Nat.beq t1.alt 1) (kk ⟨1,(decide (t1.is0≥0))⟩) (kk ⟨0,false⟩)) (kk ⟨0,false⟩))
noncomputable def r9 (x:O0):O1:=B0 (fun r=>r) x
noncomputable def ca0 (x:O0) (r:O1):DT (b7×List c7):=(.ite (Nat.beq r.alt 1) (.ret ((b r.bs0),[⟨0,4,[[(i x.d6),(i x.b8),(i x.d8),(i x.g8)]],true,false,0⟩])) .fail)
theorem eb3 {α β:Type} (F:α→β) (kk:O1→α) (x:O0):F (B0 kk x)=B0 (fun r=>F (kk r)) x:=by unfold B0;(repeat' apply k8 (f:=F))<;>rfl
noncomputable def va7:Sum:=mb4 ⟨[(.s (.c 3 (nL tV))),(.fn 197 [(.o (.ptr 0 0 0 0))])],[⟨0,4,true,(some [[(.o (.int .i64)),(.o (.int .i64)),(.o (.int .i64)),(.o (.int .i64))]])⟩],fun a H=>(⟨(rL tV (slT a 0)),(toI (slT (rwT (elT H 0) 0) 0)),(toI (slT (rwT (elT H 0) 0) 1)),(toI (slT (rwT (elT H 0) 0) 2)),(toI (slT (rwT (elT H 0) 0) 3))⟩,())⟩ (fun x=>ca0 x (r9 x))
theorem Za3:g9 prog G 174 va7:=X4 (enc:=fun x=>⟨[(eL tV x.c8),(.fn 197 [(.ptr 0 0 0 0)])],[⟨0,4,[[(i x.d6),(i x.b8),(i x.d8),(i x.g8)]],true,false,0⟩]⟩) (fun a H=>by kernel_rfl) (bd Ue1 Va8) fun x=>A6 (Eq.trans (b:=B0 (fun r=>(ca0 x r).run) x) (by kernel_rfl) (eb3 (fun r=>(ca0 x r).run) (fun r=>r) x).symm)
noncomputable def yb5:List (Nat×Sum):=[]
theorem mc2:j9 prog G yb5:=trivial
@[reducible] noncomputable def va8:Sum:=k9 (En yb5) Ne9
theorem Da7:g9 prog G 119 va8:=bd mf3 mc2
noncomputable def Za4:List (Nat×Sum):=[(177,Va7),(174,va7),(119,va8)]
theorem dd0:j9 prog G Za4:=⟨qb8,Za3,Da7,trivial⟩
structure ca9 where
 is3:Int
 is4:Int
 is9:Int
 w4:Int
 U2:Int
 o9:Int
 Ca8:Int
 b9:List V3
 c9:List V3
structure H8 where
 C4:Int
noncomputable def Qc0 (p:ca9) (s:H8):St:=⟨(.unk::((.ptr 0 0 0 0)::(.unk::((i p.is3)::((i p.is4)::(ra 4 ((i p.is9)::((i p.w4)::(ra 5 ((i p.U2)::((i p.o9)::(ra 5 ((i p.Ca8)::((i s.C4)::(ra 35 ((i 0)::(.unk::((.ptr 1 0 0 0)::((.ptr 2 0 0 0)::(ra 8 [])))))))))))))))))))),[⟨0,1,[[(eL tV p.b9)]],true,false,0⟩,⟨0,1,[[(eL tV p.c9)]],true,false,0⟩,⟨0,1,[[(b false)]],true,false,0⟩]⟩
noncomputable def qa1 {α:Type} (k:H8→α) (e:Nat→α) (z:α) (p:ca9) (s:H8):α:=let t1:=(H7 (gL tV p.b9 s.C4.toNat) (gL tV p.b9 p.is4.toNat) (gL tV p.b9 p.is3.toNat));let t2:=(r9 ⟨(rt tV p.c9),t1.1.n.x,t1.1.n.y,t1.1.n.z,t1.1.b⟩);(sl (decide (s.C4 < p.Ca8)) (sl (inB s.C4 (List.length p.b9)) (sl (inB p.is4 (List.length p.b9)) (sl (inB p.is3 (List.length p.b9)) (sl (ha3 (gL tV p.b9 s.C4.toNat) (gL tV p.b9 p.is4.toNat) (gL tV p.b9 p.is3.toNat)) (sl t1.2 (sl t1.2 (sl ((cnE tV p.c9)&&true) (sl (Nat.beq t2.alt 1) (e 1) z) z) (k ⟨(W (s.C4+1))⟩)) (sl t1.2 z (k ⟨(W (s.C4+1))⟩))) z) z) z) z) (e 2))
noncomputable def O2 (p:ca9) (s:H8):Stp H8:=qa1 .next .exit .fail p s
noncomputable def nb8:Lo ca9 H8:=⟨En Za4,0,Yd9,[1,0,1,4,4,1,4,4,1,1,0,4,1,1,4,4,1,1,0,4,1,1,4,4],[1,3,4,9,10,16,17,23,24,60,62,63],.p,[⟨((.s (.o .unk))::((.s (.o (.ptr 0 0 0 0)))::((.s (.o .unk))::((.s (.o (.int .i64)))::((.s (.o (.int .i64)))::(ru2 4 ((.s (.o (.int .i64)))::((.s (.o (.int .i64)))::(ru2 5 ((.s (.o (.int .i64)))::((.s (.o (.int .i64)))::(ru2 5 ((.s (.o (.int .i64)))::((.s (.o (.int .i64)))::(ru2 35 ((.s (.o (.lit .i64 0)))::((.s (.o .unk))::((.s (.o (.ptr 1 0 0 0)))::((.s (.o (.ptr 2 0 0 0)))::(ru2 8 [])))))))))))))))))))),[⟨0,1,true,(some [[(.c 3 (nL tV))]])⟩,⟨0,1,true,(some [[(.c 3 (nL tV))]])⟩,⟨0,1,true,(some [[(.o (.blit false))]])⟩],fun a H=>(⟨(toI (slT a 3)),(toI (slT a 4)),(toI (slT a 9)),(toI (slT a 10)),(toI (slT a 16)),(toI (slT a 17)),(toI (slT a 23)),(rL tV (slT (rwT (elT H 0) 0) 0)),(rL tV (slT (rwT (elT H 1) 0) 0))⟩,⟨(toI (slT a 24))⟩)⟩],O2,[(none,fun p s=>let t1:=(H7 (gL tV p.b9 s.C4.toNat) (gL tV p.b9 p.is4.toNat) (gL tV p.b9 p.is3.toNat));let t2:=(r9 ⟨(rt tV p.c9),t1.1.n.x,t1.1.n.y,t1.1.n.z,t1.1.b⟩);⟨(.unk::((.ptr 0 0 0 0)::(.unk::((i p.is3)::((i p.is4)::((i s.C4)::((.ptr 3 0 0 0)::((b t1.2)::(.unk::((i p.is9)::((i p.w4)::(ra 5 ((i p.U2)::((i p.o9)::(ra 5 ((i p.Ca8)::((i s.C4)::((b (decide (s.C4 < p.Ca8)))::((i s.C4)::((.tup [(.agg [(i t1.1.n.x),(i t1.1.n.y),(i t1.1.n.z),(i t1.1.b)]),(b t1.2)])::((eL tV p.b9)::((i s.C4)::((.tptr [(i (gL tV p.b9 s.C4.toNat).x),(i (gL tV p.b9 s.C4.toNat).y),(i (gL tV p.b9 s.C4.toNat).z)])::((.agg [(i (gL tV p.b9 s.C4.toNat).x),(i (gL tV p.b9 s.C4.toNat).y),(i (gL tV p.b9 s.C4.toNat).z)])::((eL tV p.b9)::((i p.is4)::((.tptr [(i (gL tV p.b9 p.is4.toNat).x),(i (gL tV p.b9 p.is4.toNat).y),(i (gL tV p.b9 p.is4.toNat).z)])::((.agg [(i (gL tV p.b9 p.is4.toNat).x),(i (gL tV p.b9 p.is4.toNat).y),(i (gL tV p.b9 p.is4.toNat).z)])::((eL tV p.b9)::((i p.is3)::((.tptr [(i (gL tV p.b9 p.is3.toNat).x),(i (gL tV p.b9 p.is3.toNat).y),(i (gL tV p.b9 p.is3.toNat).z)])::((.agg [(i (gL tV p.b9 p.is3.toNat).x),(i (gL tV p.b9 p.is3.toNat).y),(i (gL tV p.b9 p.is3.toNat).z)])::((.tup [(.agg [(i t1.1.n.x),(i t1.1.n.y),(i t1.1.n.z),(i t1.1.b)]),(b t1.2)])::((.agg [(i t1.1.n.x),(i t1.1.n.y),(i t1.1.n.z),(i t1.1.b)])::((b t1.2)::((b t1.2)::((b true)::(.unk::((.agg [(i t1.1.n.x),(i t1.1.n.y),(i t1.1.n.z),(i t1.1.b)])::((b false)::((b true)::((b true)::(.unk::(u::(u::(u::(u::((b true)::((b true)::(ra 3 ((i 1)::(.unk::((.ptr 1 0 0 0)::((.ptr 2 0 0 0)::(ra 8 []))))))))))))))))))))))))))))))))))))))))))))))))))))))),[⟨0,1,[[(eL tV p.b9)]],true,false,0⟩,⟨0,1,[[(eL tV p.c9)]],true,false,0⟩,⟨0,1,[[(b (!t2.bs0))]],true,false,0⟩,⟨0,4,[[(i t1.1.n.x),(i t1.1.n.y),(i t1.1.n.z),(i t1.1.b)]],true,false,0⟩,⟨0,4,[[(i t1.1.n.x),(i t1.1.n.y),(i t1.1.n.z),(i t1.1.b)]],true,false,0⟩]⟩),(some 4,fun p s=>⟨(.unk::((.ptr 0 0 0 0)::(.unk::((i p.is3)::((i p.is4)::(ra 4 ((i p.is9)::((i p.w4)::(ra 5 ((i p.U2)::((i p.o9)::(ra 5 ((i p.Ca8)::((i s.C4)::((b (decide (s.C4 < p.Ca8)))::(ra 34 ((i 0)::(.unk::((.ptr 1 0 0 0)::((.ptr 2 0 0 0)::(ra 8 []))))))))))))))))))))),[⟨0,1,[[(eL tV p.b9)]],true,false,0⟩,⟨0,1,[[(eL tV p.c9)]],true,false,0⟩,⟨0,1,[[(b false)]],true,false,0⟩]⟩)],Qc0⟩
theorem Qc1:nb8.OkM:=Lo.okM [] (by kernel_rfl) .nil rfl (.cons (fun a H=>by kernel_rfl) .nil) fun p s=>(.of @qa1 (fun F _ _ _ _ _=>by unfold qa1;(repeat' apply k8 (f:=F))<;>rfl) (by kernel_rfl))
structure ka5 where
 is3:Int
 is9:Int
 w4:Int
 U2:Int
structure L4 where
 o9:Int
 b9:List V3
 c9:List V3
noncomputable def Qc2 (p:ka5) (s:L4):St:=⟨(.unk::((.ptr 0 0 0 0)::(.unk::((i p.is3)::(ra 5 ((i p.is9)::((i p.w4)::(ra 5 ((i p.U2)::((i s.o9)::(ra 42 ((i 0)::(.unk::((.ptr 1 0 0 0)::((.ptr 2 0 0 0)::(ra 8 [])))))))))))))))),[⟨0,1,[[(eL tV s.b9)]],true,false,0⟩,⟨0,1,[[(eL tV s.c9)]],true,false,0⟩,⟨0,1,[[(b false)]],true,false,0⟩]⟩
noncomputable def qa2 {α:Type} (k:L4→α) (e:Nat→α) (z:α) (p:ka5) (s:L4):α:=let t1:=(lp (O2 (⟨p.is3,s.o9,p.is9,p.w4,p.U2,s.o9,(↑(s.o9.toNat - 0):Int),(rt tV s.b9),(rt tV s.c9)⟩:ca9)) (⟨0⟩:H8));(sl (decide (s.o9 < p.U2)) (sl (inB s.o9 ((List.length s.b9)+1)) (sl ((cnE tV s.b9)&&((cnE tV s.c9)&&true)) (sl (Nat.beq t1.1 1) (e 1) (sl (Nat.beq t1.1 2) (k ⟨(W (s.o9+1)),(rt tV s.b9),(rt tV s.c9)⟩) z)) z) z) (e 2))
noncomputable def W5 (p:ka5) (s:L4):Stp L4:=qa2 .next .exit .fail p s
noncomputable def nb9:Lo ka5 L4:=⟨En Za4,0,Yd9,[1,0,1,4,4,1,4,4,1,1,0,4,1,1,4,4],[1,3,9,10,16,17,60,62,63],(.s .p (.s .p (.s (.b (.s .p (.s .p (.b (.u nb8.lsM))))) .p))),[⟨((.s (.o .unk))::((.s (.o (.ptr 0 0 0 0)))::((.s (.o .unk))::((.s (.o (.int .i64)))::(ru2 5 ((.s (.o (.int .i64)))::((.s (.o (.int .i64)))::(ru2 5 ((.s (.o (.int .i64)))::((.s (.o (.int .i64)))::(ru2 42 ((.s (.o (.lit .i64 0)))::((.s (.o .unk))::((.s (.o (.ptr 1 0 0 0)))::((.s (.o (.ptr 2 0 0 0)))::(ru2 8 [])))))))))))))))),[⟨0,1,true,(some [[(.c 3 (nL tV))]])⟩,⟨0,1,true,(some [[(.c 3 (nL tV))]])⟩,⟨0,1,true,(some [[(.o (.blit false))]])⟩],fun a H=>(⟨(toI (slT a 3)),(toI (slT a 9)),(toI (slT a 10)),(toI (slT a 16))⟩,⟨(toI (slT a 17)),(rL tV (slT (rwT (elT H 0) 0) 0)),(rL tV (slT (rwT (elT H 1) 0) 0))⟩)⟩],W5,[(none,fun p s=>let t1:=(lp (O2 (⟨p.is3,s.o9,p.is9,p.w4,p.U2,s.o9,(↑(s.o9.toNat - 0):Int),(rt tV s.b9),(rt tV s.c9)⟩:ca9)) (⟨0⟩:H8));let t2:=(H7 (gL tV (rt tV s.b9) t1.2.C4.toNat) (gL tV (rt tV s.b9) s.o9.toNat) (gL tV (rt tV s.b9) p.is3.toNat));let t3:=(r9 ⟨(rt tV (rt tV s.c9)),t2.1.n.x,t2.1.n.y,t2.1.n.z,t2.1.b⟩);⟨(.unk::((.ptr 0 0 0 0)::(.unk::((i p.is3)::((i s.o9)::((i t1.2.C4)::((.ptr 3 0 0 0)::((b t2.2)::(.unk::((i p.is9)::((i p.w4)::(ra 5 ((i p.U2)::((i s.o9)::(ra 5 ((i (↑(s.o9.toNat - 0):Int))::((i t1.2.C4)::((b (decide (t1.2.C4 < (↑(s.o9.toNat - 0):Int))))::((i t1.2.C4)::((.tup [(.agg [(i t2.1.n.x),(i t2.1.n.y),(i t2.1.n.z),(i t2.1.b)]),(b t2.2)])::((eL tV (rt tV s.b9))::((i t1.2.C4)::((.tptr [(i (gL tV (rt tV s.b9) t1.2.C4.toNat).x),(i (gL tV (rt tV s.b9) t1.2.C4.toNat).y),(i (gL tV (rt tV s.b9) t1.2.C4.toNat).z)])::((.agg [(i (gL tV (rt tV s.b9) t1.2.C4.toNat).x),(i (gL tV (rt tV s.b9) t1.2.C4.toNat).y),(i (gL tV (rt tV s.b9) t1.2.C4.toNat).z)])::((eL tV (rt tV s.b9))::((i s.o9)::((.tptr [(i (gL tV (rt tV s.b9) s.o9.toNat).x),(i (gL tV (rt tV s.b9) s.o9.toNat).y),(i (gL tV (rt tV s.b9) s.o9.toNat).z)])::((.agg [(i (gL tV (rt tV s.b9) s.o9.toNat).x),(i (gL tV (rt tV s.b9) s.o9.toNat).y),(i (gL tV (rt tV s.b9) s.o9.toNat).z)])::((eL tV (rt tV s.b9))::((i p.is3)::((.tptr [(i (gL tV (rt tV s.b9) p.is3.toNat).x),(i (gL tV (rt tV s.b9) p.is3.toNat).y),(i (gL tV (rt tV s.b9) p.is3.toNat).z)])::((.agg [(i (gL tV (rt tV s.b9) p.is3.toNat).x),(i (gL tV (rt tV s.b9) p.is3.toNat).y),(i (gL tV (rt tV s.b9) p.is3.toNat).z)])::((.tup [(.agg [(i t2.1.n.x),(i t2.1.n.y),(i t2.1.n.z),(i t2.1.b)]),(b t2.2)])::((.agg [(i t2.1.n.x),(i t2.1.n.y),(i t2.1.n.z),(i t2.1.b)])::((b t2.2)::((b t2.2)::((b true)::(.unk::((.agg [(i t2.1.n.x),(i t2.1.n.y),(i t2.1.n.z),(i t2.1.b)])::((b false)::((b true)::((b true)::(.unk::(u::(u::(u::(u::((b true)::((b true)::(ra 3 ((i 1)::(.unk::((.ptr 1 0 0 0)::((.ptr 2 0 0 0)::(ra 8 []))))))))))))))))))))))))))))))))))))))))))))))))))))))),[⟨0,1,[[(eL tV (rt tV s.b9))]],true,false,0⟩,⟨0,1,[[(eL tV (rt tV s.c9))]],true,false,0⟩,⟨0,1,[[(b (!t3.bs0))]],true,false,0⟩,⟨0,4,[[(i t2.1.n.x),(i t2.1.n.y),(i t2.1.n.z),(i t2.1.b)]],true,false,0⟩,⟨0,4,[[(i t2.1.n.x),(i t2.1.n.y),(i t2.1.n.z),(i t2.1.b)]],true,false,0⟩]⟩),(some 2,fun p s=>⟨(.unk::((.ptr 0 0 0 0)::(.unk::((i p.is3)::(ra 5 ((i p.is9)::((i p.w4)::(ra 5 ((i p.U2)::((i s.o9)::((b (decide (s.o9 < p.U2)))::(ra 41 ((i 0)::(.unk::((.ptr 1 0 0 0)::((.ptr 2 0 0 0)::(ra 8 []))))))))))))))))),[⟨0,1,[[(eL tV s.b9)]],true,false,0⟩,⟨0,1,[[(eL tV s.c9)]],true,false,0⟩,⟨0,1,[[(b false)]],true,false,0⟩]⟩)],Qc2⟩
theorem Qc3:nb9.OkM:=Lo.okM [nb8.prM] (by kernel_rfl) (.cons Qc1 .nil) rfl (.cons (fun a H=>by kernel_rfl) .nil) fun p s=>(.of @qa2 (fun F _ _ _ _ _=>by unfold qa2;(repeat' apply k8 (f:=F))<;>rfl) (by kernel_rfl))
structure Ba3 where
 is9:Int
structure U8 where
 w4:Int
 b9:List V3
 c9:List V3
noncomputable def Qc4 (p:Ba3) (s:U8):St:=⟨(.unk::((.ptr 0 0 0 0)::(ra 7 ((i p.is9)::((i s.w4)::(ra 49 ((i 0)::(.unk::((.ptr 1 0 0 0)::((.ptr 2 0 0 0)::(ra 8 []))))))))))),[⟨0,1,[[(eL tV s.b9)]],true,false,0⟩,⟨0,1,[[(eL tV s.c9)]],true,false,0⟩,⟨0,1,[[(b false)]],true,false,0⟩]⟩
noncomputable def qa3 {α:Type} (k:U8→α) (e:Nat→α) (z:α) (p:Ba3) (s:U8):α:=let t1:=(lp (W5 (⟨s.w4,p.is9,s.w4,(↑(s.w4.toNat - 0):Int)⟩:ka5)) (⟨0,(rt tV s.b9),(rt tV s.c9)⟩:L4));(sl (decide (s.w4 < p.is9)) (sl (inB s.w4 ((List.length s.b9)+1)) (sl ((cnE tV s.b9)&&((cnE tV s.c9)&&true)) (sl (Nat.beq t1.1 1) (e 1) (sl (Nat.beq t1.1 2) (k ⟨(W (s.w4+1)),t1.2.b9,t1.2.c9⟩) z)) z) z) (e 2))
noncomputable def na2 (p:Ba3) (s:U8):Stp U8:=qa3 .next .exit .fail p s
noncomputable def ob0:Lo Ba3 U8:=⟨En Za4,0,Yd9,[1,0,1,4,4,1,4,4],[1,9,10,60,62,63],(.s .p (.s .p (.s (.b (.s .p (.s .p (.b (.u nb9.lsM))))) .p))),[⟨((.s (.o .unk))::((.s (.o (.ptr 0 0 0 0)))::(ru2 7 ((.s (.o (.int .i64)))::((.s (.o (.int .i64)))::(ru2 49 ((.s (.o (.lit .i64 0)))::((.s (.o .unk))::((.s (.o (.ptr 1 0 0 0)))::((.s (.o (.ptr 2 0 0 0)))::(ru2 8 []))))))))))),[⟨0,1,true,(some [[(.c 3 (nL tV))]])⟩,⟨0,1,true,(some [[(.c 3 (nL tV))]])⟩,⟨0,1,true,(some [[(.o (.blit false))]])⟩],fun a H=>(⟨(toI (slT a 9))⟩,⟨(toI (slT a 10)),(rL tV (slT (rwT (elT H 0) 0) 0)),(rL tV (slT (rwT (elT H 1) 0) 0))⟩)⟩],na2,[(none,fun p s=>let t1:=(lp (W5 (⟨s.w4,p.is9,s.w4,(↑(s.w4.toNat - 0):Int)⟩:ka5)) (⟨0,(rt tV s.b9),(rt tV s.c9)⟩:L4));let t2:=(lp (O2 (⟨s.w4,t1.2.o9,p.is9,s.w4,(↑(s.w4.toNat - 0):Int),t1.2.o9,(↑(t1.2.o9.toNat - 0):Int),(rt tV t1.2.b9),(rt tV t1.2.c9)⟩:ca9)) (⟨0⟩:H8));let t3:=(H7 (gL tV (rt tV t1.2.b9) t2.2.C4.toNat) (gL tV (rt tV t1.2.b9) t1.2.o9.toNat) (gL tV (rt tV t1.2.b9) s.w4.toNat));let t4:=(r9 ⟨(rt tV (rt tV t1.2.c9)),t3.1.n.x,t3.1.n.y,t3.1.n.z,t3.1.b⟩);⟨(.unk::((.ptr 0 0 0 0)::(.unk::((i s.w4)::((i t1.2.o9)::((i t2.2.C4)::((.ptr 3 0 0 0)::((b t3.2)::(.unk::((i p.is9)::((i s.w4)::(ra 5 ((i (↑(s.w4.toNat - 0):Int))::((i t1.2.o9)::(ra 5 ((i (↑(t1.2.o9.toNat - 0):Int))::((i t2.2.C4)::((b (decide (t2.2.C4 < (↑(t1.2.o9.toNat - 0):Int))))::((i t2.2.C4)::((.tup [(.agg [(i t3.1.n.x),(i t3.1.n.y),(i t3.1.n.z),(i t3.1.b)]),(b t3.2)])::((eL tV (rt tV t1.2.b9))::((i t2.2.C4)::((.tptr [(i (gL tV (rt tV t1.2.b9) t2.2.C4.toNat).x),(i (gL tV (rt tV t1.2.b9) t2.2.C4.toNat).y),(i (gL tV (rt tV t1.2.b9) t2.2.C4.toNat).z)])::((.agg [(i (gL tV (rt tV t1.2.b9) t2.2.C4.toNat).x),(i (gL tV (rt tV t1.2.b9) t2.2.C4.toNat).y),(i (gL tV (rt tV t1.2.b9) t2.2.C4.toNat).z)])::((eL tV (rt tV t1.2.b9))::((i t1.2.o9)::((.tptr [(i (gL tV (rt tV t1.2.b9) t1.2.o9.toNat).x),(i (gL tV (rt tV t1.2.b9) t1.2.o9.toNat).y),(i (gL tV (rt tV t1.2.b9) t1.2.o9.toNat).z)])::((.agg [(i (gL tV (rt tV t1.2.b9) t1.2.o9.toNat).x),(i (gL tV (rt tV t1.2.b9) t1.2.o9.toNat).y),(i (gL tV (rt tV t1.2.b9) t1.2.o9.toNat).z)])::((eL tV (rt tV t1.2.b9))::((i s.w4)::((.tptr [(i (gL tV (rt tV t1.2.b9) s.w4.toNat).x),(i (gL tV (rt tV t1.2.b9) s.w4.toNat).y),(i (gL tV (rt tV t1.2.b9) s.w4.toNat).z)])::((.agg [(i (gL tV (rt tV t1.2.b9) s.w4.toNat).x),(i (gL tV (rt tV t1.2.b9) s.w4.toNat).y),(i (gL tV (rt tV t1.2.b9) s.w4.toNat).z)])::((.tup [(.agg [(i t3.1.n.x),(i t3.1.n.y),(i t3.1.n.z),(i t3.1.b)]),(b t3.2)])::((.agg [(i t3.1.n.x),(i t3.1.n.y),(i t3.1.n.z),(i t3.1.b)])::((b t3.2)::((b t3.2)::((b true)::(.unk::((.agg [(i t3.1.n.x),(i t3.1.n.y),(i t3.1.n.z),(i t3.1.b)])::((b false)::((b true)::((b true)::(.unk::(u::(u::(u::(u::((b true)::((b true)::(ra 3 ((i 1)::(.unk::((.ptr 1 0 0 0)::((.ptr 2 0 0 0)::(ra 8 []))))))))))))))))))))))))))))))))))))))))))))))))))))))),[⟨0,1,[[(eL tV (rt tV t1.2.b9))]],true,false,0⟩,⟨0,1,[[(eL tV (rt tV t1.2.c9))]],true,false,0⟩,⟨0,1,[[(b (!t4.bs0))]],true,false,0⟩,⟨0,4,[[(i t3.1.n.x),(i t3.1.n.y),(i t3.1.n.z),(i t3.1.b)]],true,false,0⟩,⟨0,4,[[(i t3.1.n.x),(i t3.1.n.y),(i t3.1.n.z),(i t3.1.b)]],true,false,0⟩]⟩),(some 0,fun p s=>⟨(.unk::((.ptr 0 0 0 0)::(ra 7 ((i p.is9)::((i s.w4)::((b (decide (s.w4 < p.is9)))::(ra 48 ((i 0)::(.unk::((.ptr 1 0 0 0)::((.ptr 2 0 0 0)::(ra 8 [])))))))))))),[⟨0,1,[[(eL tV s.b9)]],true,false,0⟩,⟨0,1,[[(eL tV s.c9)]],true,false,0⟩,⟨0,1,[[(b false)]],true,false,0⟩]⟩)],Qc4⟩
theorem Qc5:ob0.OkM:=Lo.okM [nb9.prM] (by kernel_rfl) (.cons Qc3 .nil) rfl (.cons (fun a H=>by kernel_rfl) .nil) fun p s=>(.of @qa3 (fun F _ _ _ _ _=>by unfold qa3;(repeat' apply k8 (f:=F))<;>rfl) (by kernel_rfl))
noncomputable def Ta9 (x:List V3):Option (b7×List c7):=let t1:=(lp (na2 (⟨(↑(List.length x):Int)⟩:Ba3)) (⟨0,(rt tV x),(rt tV x)⟩:U8));let t2:=(lp (W5 (⟨t1.2.w4,(↑(List.length x):Int),t1.2.w4,(↑(t1.2.w4.toNat - 0):Int)⟩:ka5)) (⟨0,(rt tV t1.2.b9),(rt tV t1.2.c9)⟩:L4));let t3:=(lp (O2 (⟨t1.2.w4,t2.2.o9,(↑(List.length x):Int),t1.2.w4,(↑(t1.2.w4.toNat - 0):Int),t2.2.o9,(↑(t2.2.o9.toNat - 0):Int),(rt tV t2.2.b9),(rt tV t2.2.c9)⟩:ca9)) (⟨0⟩:H8));let t4:=(H7 (gL tV (rt tV t2.2.b9) t3.2.C4.toNat) (gL tV (rt tV t2.2.b9) t2.2.o9.toNat) (gL tV (rt tV t2.2.b9) t1.2.w4.toNat));let t5:=(r9 ⟨(rt tV (rt tV t2.2.c9)),t4.1.n.x,t4.1.n.y,t4.1.n.z,t4.1.b⟩);(sl ((cnE tV x)&&((cnE tV x)&&true)) (sl (Nat.beq t1.1 1) (some ((b (!t5.bs0)),[])) (sl (Nat.beq t1.1 2) (some ((b true),[])) none)) none)
noncomputable def kb4 (x:List V3):Bool:=M4 (one r1B) (Ta9 x)
noncomputable def kb5 (x:List V3):Bool:=okO (one r1B) (Ta9 x)
noncomputable def vc4:Sum:=V6 (oa4 tV) (fun x=>.guard (kb5 x) (.ret ((one r1B).enc (kb4 x),[])))
theorem td8:g9 prog G 175 vc4:=Ta2 (bd pf7 dd0) (one r1B) (o:=Ta9) fun x=>Fd1 (.s .p (.s (.s .p (.b (.i (.s .p (.b (.u ob0.lsM)))))) .p)) [ob0.prM] (by kernel_rfl) (.cons Qc5 .nil) (by kernel_rfl)
end Go.Ev.Ce
end
section
namespace Go.Ev.Ce
open Go Go.Ev Go.Ev.L Go.Proofs
set_option maxRecDepth 100000
structure Da8 where
 fa6:Int
 fa7:Int
 fa8:Int
 d6:Int
 b8:Int
 d8:Int
 g8:Int
noncomputable def mc3:List (Nat×Sum):=[(88,Za1)]
theorem dc5:j9 prog G mc3:=⟨nb6,trivial⟩
structure Da9 where
 alt:Nat
 bs0:Bool
noncomputable def ha4 {α:Type} (kk:Da9→α) (x:Da8):α:=let t1:=(oa6 (⟨(⟨x.d6,x.b8,x.d8⟩:V3),x.g8⟩:Pln) (⟨x.fa6,x.fa7,x.fa8⟩:V3));(sl (oa7 (⟨(⟨x.d6,x.b8,x.d8⟩:V3),x.g8⟩:Pln) (⟨x.fa6,x.fa7,x.fa8⟩:V3)) (kk ⟨1,(decide (t1 > 0))⟩) (kk ⟨0,false⟩))
noncomputable def Ea0 (x:Da8):Da9:=ha4 (fun r=>r) x
noncomputable def Pa3 (x:Da8) (r:Da9):DT (b7×List c7):=(.ite (Nat.beq r.alt 1) (.ret ((b r.bs0),[⟨0,4,[[(i x.d6),(i x.b8),(i x.d8),(i x.g8)]],true,false,0⟩])) .fail)
theorem zc5 {α β:Type} (F:α→β) (kk:Da9→α) (x:Da8):F (ha4 kk x)=ha4 (fun r=>F (kk r)) x:=by unfold ha4;(repeat' apply k8 (f:=F))<;>rfl
noncomputable def yb6:Sum:=mb4 ⟨[(.agg [(.o (.int .i64)),(.o (.int .i64)),(.o (.int .i64))]),(.s (.o (.ptr 0 0 0 0)))],[⟨0,4,true,(some [[(.o (.int .i64)),(.o (.int .i64)),(.o (.int .i64)),(.o (.int .i64))]])⟩],fun a H=>(⟨(toI (slT (cellsOf (slT a 0)) 0)),(toI (slT (cellsOf (slT a 0)) 1)),(toI (slT (cellsOf (slT a 0)) 2)),(toI (slT (rwT (elT H 0) 0) 0)),(toI (slT (rwT (elT H 0) 0) 1)),(toI (slT (rwT (elT H 0) 0) 2)),(toI (slT (rwT (elT H 0) 0) 3))⟩,())⟩ (fun x=>Pa3 x (Ea0 x))
theorem mc4:g9 prog G 178 yb6:=X4 (enc:=fun x=>⟨[(.agg [(i x.fa6),(i x.fa7),(i x.fa8)]),(.ptr 0 0 0 0)],[⟨0,4,[[(i x.d6),(i x.b8),(i x.d8),(i x.g8)]],true,false,0⟩]⟩) (fun a H=>by kernel_rfl) (bd pf9 dc5) fun x=>A6 (Eq.trans (b:=ha4 (fun r=>(Pa3 x r).run) x) (by kernel_rfl) (zc5 (fun r=>(Pa3 x r).run) (fun r=>r) x).symm)
structure X9 where
 c8:List V3
 d6:Int
 b8:Int
 d8:Int
 g8:Int
noncomputable def Ba4:List (Nat×Sum):=[(178,yb6)]
theorem ib2:j9 prog G Ba4:=⟨mc4,trivial⟩
structure J1 where
 c8:List V3
 is7:Int
 d6:Int
 b8:Int
 d8:Int
 g8:Int
structure p8 where
 is8:Int
noncomputable def eb4 (p:J1) (s:p8):St:=⟨((eL tV p.c8)::((.fn 178 [(.ptr 0 0 0 0)])::(ra 5 ((i p.is7)::((i s.is8)::(ra 10 [])))))),[⟨0,4,[[(i p.d6),(i p.b8),(i p.d8),(i p.g8)]],true,false,0⟩]⟩
noncomputable def E0 {α:Type} (k:p8→α) (e:Nat→α) (z:α) (p:J1) (s:p8):α:=let t1:=(Ea0 ⟨(gL tV p.c8 s.is8.toNat).x,(gL tV p.c8 s.is8.toNat).y,(gL tV p.c8 s.is8.toNat).z,p.d6,p.b8,p.d8,p.g8⟩);(sl (decide (s.is8 < p.is7)) (sl (inB s.is8 (List.length p.c8)) (sl (Nat.beq t1.alt 1) (sl t1.bs0 (e 1) (k ⟨(W (s.is8+1))⟩)) z) z) (e 2))
noncomputable def G4 (p:J1) (s:p8):Stp p8:=E0 .next .exit .fail p s
noncomputable def ga4:Lo J1 p8:=⟨En Ba4,1,Fd0,[1,0,1,4,4],[0,1,7,8],.p,[⟨((.s (.c 3 (nL tV)))::((.fn 178 [(.o (.ptr 0 0 0 0))])::(ru2 5 ((.s (.o (.int .i64)))::((.s (.o (.int .i64)))::(ru2 10 [])))))),[⟨0,4,true,(some [[(.o (.int .i64)),(.o (.int .i64)),(.o (.int .i64)),(.o (.int .i64))]])⟩],fun a H=>(⟨(rL tV (slT a 0)),(toI (slT a 7)),(toI (slT (rwT (elT H 0) 0) 0)),(toI (slT (rwT (elT H 0) 0) 1)),(toI (slT (rwT (elT H 0) 0) 2)),(toI (slT (rwT (elT H 0) 0) 3))⟩,⟨(toI (slT a 8))⟩)⟩],G4,[(none,fun p s=>⟨[(i s.is8)],[⟨0,4,[[(i p.d6),(i p.b8),(i p.d8),(i p.g8)]],true,false,0⟩]⟩),(some 0,fun p s=>⟨((eL tV p.c8)::((.fn 178 [(.ptr 0 0 0 0)])::(ra 5 ((i p.is7)::((i s.is8)::((b (decide (s.is8 < p.is7)))::(ra 9 []))))))),[⟨0,4,[[(i p.d6),(i p.b8),(i p.d8),(i p.g8)]],true,false,0⟩]⟩)],eb4⟩
theorem eb5:ga4.Ok:=Lo.ok [] (by kernel_rfl) .nil rfl (.cons (fun a H=>by kernel_rfl) .nil) fun p s=>(.of @E0 (fun F _ _ _ _ _=>by unfold E0;(repeat' apply k8 (f:=F))<;>rfl) (by kernel_rfl))
structure Y0 where
 alt:Nat
 is0:Int
noncomputable def E7 {α:Type} (kk:Y0→α) (x:X9):α:=let t1:=(lp (G4 (⟨(rt tV x.c8),(↑(List.length x.c8):Int),x.d6,x.b8,x.d8,x.g8⟩:J1)) (⟨0⟩:p8));(sl ((cnE tV x.c8)&&true) (sl (Nat.beq t1.1 1) (kk ⟨1,t1.2.is8⟩) (sl (Nat.beq t1.1 2) (kk ⟨1,(-1)⟩) (kk ⟨0,0⟩))) (kk ⟨0,0⟩))
noncomputable def Y1 (x:X9):Y0:=E7 (fun r=>r) x
noncomputable def ka6 (x:X9) (r:Y0):DT (b7×List c7):=(.ite (Nat.beq r.alt 1) (.ret ((i r.is0),[⟨0,4,[[(i x.d6),(i x.b8),(i x.d8),(i x.g8)]],true,false,0⟩])) .fail)
theorem rb0 {α β:Type} (F:α→β) (kk:Y0→α) (x:X9):F (E7 kk x)=E7 (fun r=>F (kk r)) x:=by unfold E7;(repeat' apply k8 (f:=F))<;>rfl
noncomputable def Ha1:Sum:=mb4 ⟨[(.s (.c 3 (nL tV))),(.fn 178 [(.o (.ptr 0 0 0 0))])],[⟨0,4,true,(some [[(.o (.int .i64)),(.o (.int .i64)),(.o (.int .i64)),(.o (.int .i64))]])⟩],fun a H=>(⟨(rL tV (slT a 0)),(toI (slT (rwT (elT H 0) 0) 0)),(toI (slT (rwT (elT H 0) 0) 1)),(toI (slT (rwT (elT H 0) 0) 2)),(toI (slT (rwT (elT H 0) 0) 3))⟩,())⟩ (fun x=>ka6 x (Y1 x))
theorem ob1:g9 prog G 144 Ha1:=X4 (enc:=fun x=>⟨[(eL tV x.c8),(.fn 178 [(.ptr 0 0 0 0)])],[⟨0,4,[[(i x.d6),(i x.b8),(i x.d8),(i x.g8)]],true,false,0⟩]⟩) (fun a H=>by kernel_rfl) (bd Fe4 ib2) fun x=>xa9 (.s .p (.s (.s .p (.b (.u ga4.ls))) .p)) [ga4.pr] (by kernel_rfl) (.cons eb5 .nil) (Eq.trans (b:=E7 (fun r=>(ka6 x r).run) x) (by kernel_rfl) (rb0 (fun r=>(ka6 x r).run) (fun r=>r) x).symm)
structure O3 where
 c8:List V3
 d6:Int
 b8:Int
 d8:Int
 g8:Int
noncomputable def Za5:List (Nat×Sum):=[(144,Ha1)]
theorem Va9:j9 prog G Za5:=⟨ob1,trivial⟩
structure O4 where
 alt:Nat
 bs0:Bool
noncomputable def B1 {α:Type} (kk:O4→α) (x:O3):α:=let t1:=(Y1 ⟨(rt tV x.c8),x.d6,x.b8,x.d8,x.g8⟩);(sl ((cnE tV x.c8)&&true) (sl (Nat.beq t1.alt 1) (kk ⟨1,(decide (t1.is0≥0))⟩) (kk ⟨0,false⟩)) (kk ⟨0,false⟩))
noncomputable def O5 (x:O3):O4:=B1 (fun r=>r) x
noncomputable def ca1 (x:O3) (r:O4):DT (b7×List c7):=(.ite (Nat.beq r.alt 1) (.ret ((b r.bs0),[⟨0,4,[[(i x.d6),(i x.b8),(i x.d8),(i x.g8)]],true,false,0⟩])) .fail)
theorem eb6 {α β:Type} (F:α→β) (kk:O4→α) (x:O3):F (B1 kk x)=B1 (fun r=>F (kk r)) x:=by unfold B1;(repeat' apply k8 (f:=F))<;>rfl
noncomputable def va9:Sum:=mb4 ⟨[(.s (.c 3 (nL tV))),(.fn 178 [(.o (.ptr 0 0 0 0))])],[⟨0,4,true,(some [[(.o (.int .i64)),(.o (.int .i64)),(.o (.int .i64)),(.o (.int .i64))]])⟩],fun a H=>(⟨(rL tV (slT a 0)),(toI (slT (rwT (elT H 0) 0) 0)),(toI (slT (rwT (elT H 0) 0) 1)),(toI (slT (rwT (elT H 0) 0) 2)),(toI (slT (rwT (elT H 0) 0) 3))⟩,())⟩ (fun x=>ca1 x (O5 x))
theorem Za6:g9 prog G 174 va9:=X4 (enc:=fun x=>⟨[(eL tV x.c8),(.fn 178 [(.ptr 0 0 0 0)])],[⟨0,4,[[(i x.d6),(i x.b8),(i x.d8),(i x.g8)]],true,false,0⟩]⟩) (fun a H=>by kernel_rfl) (bd Ue1 Va9) fun x=>A6 (Eq.trans (b:=B1 (fun r=>(ca1 x r).run) x) (by kernel_rfl) (eb6 (fun r=>(ca1 x r).run) (fun r=>r) x).symm)
noncomputable def Qc6:List (Nat×Sum):=[(174,va9)]
theorem zc6:j9 prog G Qc6:=⟨Za6,trivial⟩
noncomputable def Ba5 (x:List V3) (y:Pln):Option (b7×List c7):=let t1:=(O5 ⟨(rt tV x),y.n.x,y.n.y,y.n.z,y.b⟩);(sl ((cnE tV x)&&true) (sl (Nat.beq t1.alt 1) (some ((b t1.bs0),[])) none) none)
noncomputable def da0 (x:List V3) (y:Pln):Bool:=M4 (one r1B) (Ba5 x y)
noncomputable def H9 (x:List V3) (y:Pln):Bool:=okO (one r1B) (Ba5 x y)
noncomputable def Rb2:Sum:=ga1 (oa4 tV) (K9 tP) (fun x y=>.guard (H9 x y) (.ret ((one r1B).enc (da0 x y),[])))
theorem Qc7:g9 prog G 120 Rb2:=Oa2 (bd mf4 zc6) (one r1B) (o:=Ba5) fun x y=>A6 (by kernel_rfl)
end Go.Ev.Ce
end
section
namespace Go.Ev.Ce
open Go Go.Ev Go.Ev.L Go.Proofs
set_option maxRecDepth 100000
noncomputable def zc7:List (Nat×Sum):=[(85,vb9)]
theorem mc5:j9 prog G zc7:=⟨Fb4,trivial⟩
noncomputable def wa0 (x:V3):Option (b7×List c7):=let t1:=(ua9 x);(sl (va0 x) (some ((b (!t1)),[])) none)
noncomputable def Ja8 (x:V3):Bool:=M4 (one r1B) (wa0 x)
noncomputable def Ja9 (x:V3):Bool:=okO (one r1B) (wa0 x)
noncomputable def Gb4:Sum:=V6 (K9 tV) (fun x=>.guard (Ja9 x) (.ret ((one r1B).enc (Ja8 x),[])))
theorem zc8:g9 prog G 173 Gb4:=Ta2 (bd pf2 mc5) (one r1B) (o:=wa0) fun x=>A6 (by kernel_rfl)
structure Y2 where
 c8:List V3
noncomputable def Ba6:List (Nat×Sum):=[(173,Gb4)]
theorem ib3:j9 prog G Ba6:=⟨zc8,trivial⟩
structure J2 where
 c8:List V3
 is7:Int
structure p9 where
 is8:Int
noncomputable def eb7 (p:J2) (s:p9):St:=⟨((eL tV p.c8)::((.fn 173 [])::(ra 5 ((i p.is7)::((i s.is8)::(ra 10 [])))))),[]⟩
noncomputable def E1 {α:Type} (k:p9→α) (e:Nat→α) (z:α) (p:J2) (s:p9):α:=let t1:=(Ja8 (gL tV p.c8 s.is8.toNat));(sl (decide (s.is8 < p.is7)) (sl (inB s.is8 (List.length p.c8)) (sl (Ja9 (gL tV p.c8 s.is8.toNat)) (sl t1 (e 1) (k ⟨(W (s.is8+1))⟩)) z) z) (e 2))
noncomputable def G5 (p:J2) (s:p9):Stp p9:=E1 .next .exit .fail p s
noncomputable def ga5:Lo J2 p9:=⟨En Ba6,0,Fd0,[1,0,1,4,4],[0,1,7,8],.p,[⟨((.s (.c 3 (nL tV)))::((.s (.o (.fn 173)))::(ru2 5 ((.s (.o (.int .i64)))::((.s (.o (.int .i64)))::(ru2 10 [])))))),[],fun a H=>(⟨(rL tV (slT a 0)),(toI (slT a 7))⟩,⟨(toI (slT a 8))⟩)⟩],G5,[(none,fun p s=>⟨[(i s.is8)],[]⟩),(some 0,fun p s=>⟨((eL tV p.c8)::((.fn 173 [])::(ra 5 ((i p.is7)::((i s.is8)::((b (decide (s.is8 < p.is7)))::(ra 9 []))))))),[]⟩)],eb7⟩
theorem eb8:ga5.Ok:=Lo.ok [] (by kernel_rfl) .nil rfl (.cons (fun a H=>by kernel_rfl) .nil) fun p s=>(.of @E1 (fun F _ _ _ _ _=>by unfold E1;(repeat' apply k8 (f:=F))<;>rfl) (by kernel_rfl))
structure Y3 where
 alt:Nat
 is0:Int
noncomputable def E8 {α:Type} (kk:Y3→α) (x:Y2):α:=let t1:=(lp (G5 (⟨(rt tV x.c8),(↑(List.length x.c8):Int)⟩:J2)) (⟨0⟩:p9));(sl ((cnE tV x.c8)&&true) (sl (Nat.beq t1.1 1) (kk ⟨1,t1.2.is8⟩) (sl (Nat.beq t1.1 2) (kk ⟨1,(-1)⟩) (kk ⟨0,0⟩))) (kk ⟨0,0⟩))
noncomputable def Y4 (x:Y2):Y3:=E8 (fun r=>r) x
noncomputable def ka7 (x:Y2) (r:Y3):DT (b7×List c7):=(.ite (Nat.beq r.alt 1) (.ret ((i r.is0),[])) .fail)
theorem rb1 {α β:Type} (F:α→β) (kk:Y3→α) (x:Y2):F (E8 kk x)=E8 (fun r=>F (kk r)) x:=by unfold E8;(repeat' apply k8 (f:=F))<;>rfl
noncomputable def Ha2:Sum:=mb4 ⟨[(.s (.c 3 (nL tV))),(.s (.o (.fn 173)))],[],fun a H=>(⟨(rL tV (slT a 0))⟩,())⟩ (fun x=>ka7 x (Y4 x))
theorem ob2:g9 prog G 144 Ha2:=X4 (enc:=fun x=>⟨[(eL tV x.c8),(.fn 173 [])],[]⟩) (fun a H=>by kernel_rfl) (bd Fe4 ib3) fun x=>xa9 (.s .p (.s (.s .p (.b (.u ga5.ls))) .p)) [ga5.pr] (by kernel_rfl) (.cons eb8 .nil) (Eq.trans (b:=E8 (fun r=>(ka7 x r).run) x) (by kernel_rfl) (rb1 (fun r=>(ka7 x r).run) (fun r=>r) x).symm)
structure O6 where
 c8:List V3
noncomputable def Za7:List (Nat×Sum):=[(144,Ha2)]
theorem Wa0:j9 prog G Za7:=⟨ob2,trivial⟩
structure O7 where
 alt:Nat
 bs0:Bool
noncomputable def B4 {α:Type} (kk:O7→α) (x:O6):α:=let t1:=(Y4 ⟨(rt tV x.c8)⟩);(sl ((cnE tV x.c8)&&true) (sl (Nat.beq t1.alt 1) (kk ⟨1,(decide (t1.is0≥0))⟩) (kk ⟨0,false⟩)) (kk ⟨0,false⟩))
noncomputable def O8 (x:O6):O7:=B4 (fun r=>r) x
noncomputable def ca2 (x:O6) (r:O7):DT (b7×List c7):=(.ite (Nat.beq r.alt 1) (.ret ((b r.bs0),[])) .fail)
theorem eb9 {α β:Type} (F:α→β) (kk:O7→α) (x:O6):F (B4 kk x)=B4 (fun r=>F (kk r)) x:=by unfold B4;(repeat' apply k8 (f:=F))<;>rfl
noncomputable def wa1:Sum:=mb4 ⟨[(.s (.c 3 (nL tV))),(.s (.o (.fn 173)))],[],fun a H=>(⟨(rL tV (slT a 0))⟩,())⟩ (fun x=>ca2 x (O8 x))
theorem Za8:g9 prog G 174 wa1:=X4 (enc:=fun x=>⟨[(eL tV x.c8),(.fn 173 [])],[]⟩) (fun a H=>by kernel_rfl) (bd Ue1 Wa0) fun x=>A6 (Eq.trans (b:=B4 (fun r=>(ca2 x r).run) x) (by kernel_rfl) (eb9 (fun r=>(ca2 x r).run) (fun r=>r) x).symm)
noncomputable def dd1:List (Nat×Sum):=[(174,wa1),(175,vc4)]
theorem Qc8:j9 prog G dd1:=⟨Za8,td8,trivial⟩
noncomputable def Ka0 (x:List V3):Option (b7×List c7):=let t1:=(O8 ⟨(rt tV x)⟩);let t2:=(kb4 (rt tV x));(sl (decide ((↑(List.length x):Int) > 48)) (some ((i 2),[])) (sl ((cnE tV x)&&true) (sl (Nat.beq t1.alt 1) (sl t1.bs0 (some ((i 3),[])) (sl (okE tV x) (sl (kb5 (rt tV x)) (sl t2 (some ((i 11),[])) (some ((i 0),[]))) none) none)) none) none))
noncomputable def Ka1 (x:List V3):Int:=M4 (one r1I) (Ka0 x)
noncomputable def Ka2 (x:List V3):Bool:=okO (one r1I) (Ka0 x)
noncomputable def wb7:Sum:=V6 (oa4 tV) (fun x=>.guard (Ka2 x) (.ret ((one r1I).enc (Ka1 x),[])))
theorem Rb3:g9 prog G 118 wb7:=Ta2 (bd mf2 Qc8) (one r1I) (o:=Ka0) fun x=>A6 (by kernel_rfl)
end Go.Ev.Ce
end
section
namespace Go.Ev.Ce
open Go Go.Ev Go.Ev.L Go.Proofs
set_option maxRecDepth 100000
noncomputable def mc6:List (Nat×Sum):=[]
theorem dc6:j9 prog G mc6:=trivial
noncomputable def Ea1 (x:Int):Bool:=(x != x)
noncomputable def yb7:Sum:=V6 cI (fun x=>.ret ((one r1B).enc (Ea1 x),[]))
theorem mc7:g9 prog G 220 yb7:=vb1 (bd rf0 dc6) fun x=>A6 (by kernel_rfl)
noncomputable def Wb0:List (Nat×Sum):=[(220,yb7)]
theorem Ob5:j9 prog G Wb0:=⟨mc7,trivial⟩
noncomputable def ia4 (x:Int) (y:Int):Option (b7×List c7):=let t1:=(Ea1 x);let t2:=(Ea1 y);(sl t1 (sl t2 (some ((i 0),[])) (some ((i (-1)),[]))) (sl t2 (some ((i 1),[])) (sl (decide (x < y)) (some ((i (-1)),[])) (sl (decide (x > y)) (some ((i 1),[])) (some ((i 0),[]))))))
noncomputable def Y5 (x:Int) (y:Int):Int:=M4 (one r1I) (ia4 x y)
noncomputable def Y6 (x:Int) (y:Int):Bool:=okO (one r1I) (ia4 x y)
noncomputable def kb6:Sum:=ga1 cI cI (fun x y=>.guard (Y6 x y) (.ret ((one r1I).enc (Y5 x y),[])))
theorem Wb1:g9 prog G 189 kb6:=Oa2 (bd qf6 Ob5) (one r1I) (o:=ia4) fun x y=>A6 (by kernel_rfl)
noncomputable def Rb4:List (Nat×Sum):=[]
theorem Qc9:j9 prog G Rb4:=trivial
structure wa2 where
 Na0:List Int
 is7:Int
structure L5 where
 is8:Int
noncomputable def zc9 (p:wa2) (s:L5):St:=⟨(ra 3 ((i 0)::(.unk::(.unk::((eL tI p.Na0)::((i p.is7)::((i s.is8)::(ra 9 [])))))))),[]⟩
noncomputable def Pa4 {α:Type} (k:L5→α) (e:Nat→α) (z:α) (p:wa2) (s:L5):α:=(sl (decide (s.is8 < p.is7)) (sl (inB s.is8 (List.length p.Na0)) (sl ((gL tI p.Na0 s.is8.toNat) != 0) (e 1) (k ⟨(W (s.is8+1))⟩)) z) (e 2))
noncomputable def aa5 (p:wa2) (s:L5):Stp L5:=Pa4 .next .exit .fail p s
noncomputable def fb0:Lo wa2 L5:=⟨En Rb4,0,Oe9,[1,1,0,1,4,4],[3,6,7,8],.p,[⟨(ru2 3 ((.s (.o (.lit .i64 0)))::((.s (.o .unk))::((.s (.o .unk))::((.s (.c 1 (nL tI)))::((.s (.o (.int .i64)))::((.s (.o (.int .i64)))::(ru2 9 [])))))))),[],fun a H=>(⟨(rL tI (slT a 6)),(toI (slT a 7))⟩,⟨(toI (slT a 8))⟩)⟩],aa5,[(none,fun p s=>⟨[(i (gL tI p.Na0 s.is8.toNat))],[]⟩),(some 0,fun p s=>⟨(ra 3 ((i 0)::(.unk::(.unk::((eL tI p.Na0)::((i p.is7)::((i s.is8)::((b (decide (s.is8 < p.is7)))::(ra 8 []))))))))),[]⟩)],zc9⟩
theorem Ac0:fb0.Ok:=Lo.ok [] (by kernel_rfl) .nil rfl (.cons (fun a H=>by kernel_rfl) .nil) fun p s=>(.of @Pa4 (fun F _ _ _ _ _=>by unfold Pa4;(repeat' apply k8 (f:=F))<;>rfl) (by kernel_rfl))
noncomputable def Ka3 (x:List Int):Option (b7×List c7):=let t1:=(lp (aa5 (⟨(rt tI x),(↑(List.length x):Int)⟩:wa2)) (⟨0⟩:L5));(sl ((cnE tI x)&&true) (sl (Nat.beq t1.1 1) (some ((i (gL tI (rt tI x) t1.2.is8.toNat)),[])) (sl (Nat.beq t1.1 2) (some ((i 0),[])) none)) none)
noncomputable def Za9 (x:List Int):Int:=M4 (one r1I) (Ka3 x)
noncomputable def ab0 (x:List Int):Bool:=okO (one r1I) (Ka3 x)
noncomputable def dc7:Sum:=V6 (oa4 tI) (fun x=>.guard (ab0 x) (.ret ((one r1I).enc (Za9 x),[])))
theorem dd2:g9 prog G 188 dc7:=Ta2 (bd qf5 Qc9) (one r1I) (o:=Ka3) fun x=>xa9 (.s .p (.s .p (.s (.s .p (.b (.u fb0.ls))) .p))) [fb0.pr] (by kernel_rfl) (.cons Ac0 .nil) (by kernel_rfl)
noncomputable def Ac1:List (Nat×Sum):=[(189,kb6),(188,dc7)]
theorem mc8:j9 prog G Ac1:=⟨Wb1,dd2,trivial⟩
noncomputable def wa3 (x:V3) (y:V3):Option (b7×List c7):=let t1:=(Y5 x.x y.x);let t2:=(Y5 x.y y.y);let t3:=(Y5 x.z y.z);let t4:=(Za9 [t1,t2,t3]);(sl (Y6 x.x y.x) (sl (Y6 x.y y.y) (sl (Y6 x.z y.z) (sl (ab0 [t1,t2,t3]) (some ((i t4),[])) none) none) none) none)
noncomputable def Ka4 (x:V3) (y:V3):Int:=M4 (one r1I) (wa3 x y)
noncomputable def Ka5 (x:V3) (y:V3):Bool:=okO (one r1I) (wa3 x y)
noncomputable def fb1:Sum:=ga1 (K9 tV) (K9 tV) (fun x y=>.guard (Ka5 x y) (.ret ((one r1I).enc (Ka4 x y),[])))
theorem Ac2:g9 prog G 147 fb1:=Oa2 (bd of6 mc8) (one r1I) (o:=wa3) fun x y=>A6 (by kernel_rfl)
end Go.Ev.Ce
end
