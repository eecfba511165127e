/- Own work: a part of the proof. -/
import Derived.Test.YtekgjjgbdcgldaaGreatEvBd
import Derived.Test.YtekgjjgbdcgldaaGreatChecked
import Derived.Test.YtekgjjgbdcgldaaGreatEvOCePf
import Derived.KernelRfl
import Derived.Test.YtekgjjgbdcgldaaGreatEvSp2
import Derived.Test.YtekgjjgbdcgldaaGreatEvMem
import Derived.Shelf.Spec.SlicesGrow
set_option linter.unusedVariables false
set_option linter.unusedSimpArgs false
set_option linter.unnecessarySimpa false
set_option linter.unusedSectionVars false
section
namespace Go.Ev.Ce
open Go Go.Ev Go.Proofs
set_option maxRecDepth 1000000
theorem mx:(Tryz.prog).follows .mixedOrders=true:=Checked.mixed Tryz.checked
theorem b3:p4 Tryz.prog 3 fun E=>i9 E pf3:=r5 mx Tryz.func3 (by kernel_rfl) (f9 (by kernel_rfl))
theorem b4:p4 Tryz.prog 4 fun E=>i9 E pf4:=r5 mx Tryz.func4 (by kernel_rfl) (f9 (by kernel_rfl))
theorem b5:p4 Tryz.prog 5 fun E=>i9 E pf5:=r5 mx Tryz.func5 (by kernel_rfl) (f9 (by kernel_rfl))
theorem b6:p4 Tryz.prog 6 fun E=>i9 E pf6:=r5 mx Tryz.func6 (by kernel_rfl) (f9 (by kernel_rfl))
theorem b15:p4 Tryz.prog 15 fun E=>i9 E xf5:=r5 mx Tryz.func15 (by kernel_rfl) (f9 (by kernel_rfl))
theorem b16:p4 Tryz.prog 16 fun E=>i9 E xf6:=r5 mx Tryz.func16 (by kernel_rfl) (f9 (by kernel_rfl))
theorem b17:p4 Tryz.prog 17 fun E=>i9 E of7:=r5 mx Tryz.func17 (by kernel_rfl) (f9 (by kernel_rfl))
theorem b18:p4 Tryz.prog 18 fun E=>i9 E xf7:=r5 mx Tryz.func18 (by kernel_rfl) (f9 (by kernel_rfl))
theorem b19:p4 Tryz.prog 19 fun E=>i9 E xf8:=r5 mx Tryz.func19 (by kernel_rfl) (f9 (by kernel_rfl))
theorem b20:p4 Tryz.prog 20 fun E=>i9 E xf9:=r5 mx Tryz.func20 (by kernel_rfl) (f9 (by kernel_rfl))
theorem b21:p4 Tryz.prog 21 fun E=>i9 E yf0:=r5 mx Tryz.func21 (by kernel_rfl) (f9 (by kernel_rfl))
theorem b22:p4 Tryz.prog 22 fun E=>i9 E yf1:=r5 mx Tryz.func22 (by kernel_rfl) (f9 (by kernel_rfl))
theorem b23:p4 Tryz.prog 23 fun E=>i9 E of8:=r5 mx Tryz.func23 (by kernel_rfl) (f9 (by kernel_rfl))
theorem b25:p4 Tryz.prog 25 fun E=>i9 E of9:=r5 mx Tryz.func25 (by kernel_rfl) (f9 (by kernel_rfl))
theorem b27:p4 Tryz.prog 27 fun E=>i9 E yf2:=r5 mx Tryz.func27 (by kernel_rfl) (f9 (by kernel_rfl))
theorem b28:p4 Tryz.prog 28 fun E=>i9 E yf3:=r5 mx Tryz.func28 (by kernel_rfl) (f9 (by kernel_rfl))
theorem b30:p4 Tryz.prog 30 fun E=>i9 E pf0:=r5 mx Tryz.func30 (by kernel_rfl) (f9 (by kernel_rfl))
theorem b31:p4 Tryz.prog 31 fun E=>i9 E pf1:=r5 mx Tryz.func31 (by kernel_rfl) (f9 (by kernel_rfl))
theorem b34:p4 Tryz.prog 34 fun E=>i9 E yf4:=r5 mx Tryz.func34 (by kernel_rfl) (f9 (by kernel_rfl))
theorem b35:p4 Tryz.prog 35 fun E=>i9 E yf5:=r5 mx Tryz.func35 (by kernel_rfl) (f9 (by kernel_rfl))
theorem b51:p4 Tryz.prog 51 fun E=>i9 E yf6:=r5 mx Tryz.func51 (by kernel_rfl) (f9 (by kernel_rfl))
theorem b52:p4 Tryz.prog 52 fun E=>i9 E yf7:=r5 mx Tryz.func52 (by kernel_rfl) (f9 (by kernel_rfl))
theorem b63:p4 Tryz.prog 63 fun E=>i9 E yf8:=r5 mx Tryz.func63 (by kernel_rfl) (f9 (by kernel_rfl))
theorem b64:p4 Tryz.prog 64 fun E=>xb4 E Oe7:=ze5 (h:=h64) mx Tryz.func64 (by kernel_rfl) Tryz.func176 (by kernel_rfl) (f9 (by kernel_rfl))
theorem b67:p4 Tryz.prog 67 fun E=>i9 E yf9:=r5 mx Tryz.func67 (by kernel_rfl) (f9 (by kernel_rfl))
theorem b68:p4 Tryz.prog 68 fun E=>i9 E zf0:=r5 mx Tryz.func68 (by kernel_rfl) (f9 (by kernel_rfl))
theorem b69:p4 Tryz.prog 69 fun E=>i9 E zf1:=r5 mx Tryz.func69 (by kernel_rfl) (f9 (by kernel_rfl))
theorem b70:p4 Tryz.prog 70 fun E=>i9 E zf2:=r5 mx Tryz.func70 (by kernel_rfl) (f9 (by kernel_rfl))
theorem b71:p4 Tryz.prog 71 fun E=>i9 E Oe8:=r5 mx Tryz.func71 (by kernel_rfl) (f9 (by kernel_rfl))
theorem b72:p4 Tryz.prog 72 fun E=>i9 E zf3:=r5 mx Tryz.func72 (by kernel_rfl) (f9 (by kernel_rfl))
theorem b73:p4 Tryz.prog 73 fun E=>i9 E zf4:=r5 mx Tryz.func73 (by kernel_rfl) (f9 (by kernel_rfl))
theorem b74:p4 Tryz.prog 74 fun E=>i9 E ff8:=r5 mx Tryz.func74 (by kernel_rfl) (f9 (by kernel_rfl))
theorem b75:p4 Tryz.prog 75 fun E=>i9 E zf5:=r5 mx Tryz.func75 (by kernel_rfl) (f9 (by kernel_rfl))
theorem b76:p4 Tryz.prog 76 fun E=>i9 E pf2:=r5 mx Tryz.func76 (by kernel_rfl) (f9 (by kernel_rfl))
theorem b77:p4 Tryz.prog 77 fun E=>i9 E zf6:=r5 mx Tryz.func77 (by kernel_rfl) (f9 (by kernel_rfl))
theorem b78:p4 Tryz.prog 78 fun E=>i9 E ze6:=r5 mx Tryz.func78 (by kernel_rfl) (f9 (by kernel_rfl))
theorem b79:p4 Tryz.prog 79 fun E=>xb4 E ff9:=ze5 (h:=h79) mx Tryz.func79 (by kernel_rfl) Tryz.func176 (by kernel_rfl) (f9 (by kernel_rfl))
theorem b80:p4 Tryz.prog 80 fun E=>i9 E zf7:=r5 mx Tryz.func80 (by kernel_rfl) (f9 (by kernel_rfl))
theorem b83:p4 Tryz.prog 83 fun E=>i9 E zf8:=r5 mx Tryz.func83 (by kernel_rfl) (f9 (by kernel_rfl))
theorem b84:p4 Tryz.prog 84 fun E=>i9 E zf9:=r5 mx Tryz.func84 (by kernel_rfl) (f9 (by kernel_rfl))
theorem b85:p4 Tryz.prog 85 fun E=>i9 E Af0:=r5 mx Tryz.func85 (by kernel_rfl) (f9 (by kernel_rfl))
theorem b86:p4 Tryz.prog 86 fun E=>i9 E Af1:=r5 mx Tryz.func86 (by kernel_rfl) (f9 (by kernel_rfl))
theorem b88:p4 Tryz.prog 88 fun E=>i9 E Af2:=r5 mx Tryz.func88 (by kernel_rfl) (f9 (by kernel_rfl))
theorem b89:p4 Tryz.prog 89 fun E=>i9 E pf7:=r5 mx Tryz.func89 (by kernel_rfl) (f9 (by kernel_rfl))
theorem b90:p4 Tryz.prog 90 fun E=>i9 E gf0:=r5 mx Tryz.func90 (by kernel_rfl) (f9 (by kernel_rfl))
theorem b91:p4 Tryz.prog 91 fun E=>i9 E pf8:=r5 mx Tryz.func91 (by kernel_rfl) (f9 (by kernel_rfl))
theorem b92:p4 Tryz.prog 92 fun E=>i9 E Af3:=r5 mx Tryz.func92 (by kernel_rfl) (f9 (by kernel_rfl))
theorem Af4:p4 Tryz.prog 100 fun E=>i9 E Ye6:=r5 mx Tryz.func100 (by kernel_rfl) (f9 (by kernel_rfl))
theorem Af5:p4 Tryz.prog 107 fun E=>i9 E pf9:=r5 mx Tryz.func107 (by kernel_rfl) (f9 (by kernel_rfl))
theorem Af6:p4 Tryz.prog 108 fun E=>i9 E qf0:=r5 mx Tryz.func108 (by kernel_rfl) (f9 (by kernel_rfl))
theorem Af7:p4 Tryz.prog 118 fun E=>i9 E qf1:=r5 mx Tryz.func118 (by kernel_rfl) (f9 (by kernel_rfl))
theorem Af8:p4 Tryz.prog 119 fun E=>i9 E Ye7:=r5 mx Tryz.func119 (by kernel_rfl) (f9 (by kernel_rfl))
theorem Af9:p4 Tryz.prog 120 fun E=>i9 E qf2:=r5 mx Tryz.func120 (by kernel_rfl) (f9 (by kernel_rfl))
theorem Bf0:p4 Tryz.prog 122 fun E=>i9 E qf3:=r5 mx Tryz.func122 (by kernel_rfl) (f9 (by kernel_rfl))
theorem Bf1:p4 Tryz.prog 123 fun E=>i9 E ze7:=r5 mx Tryz.func123 (by kernel_rfl) (f9 (by kernel_rfl))
theorem Bf2:p4 Tryz.prog 124 fun E=>i9 E qf4:=r5 mx Tryz.func124 (by kernel_rfl) (f9 (by kernel_rfl))
theorem Bf3:p4 Tryz.prog 125 fun E=>i9 E Ye8:=r5 mx Tryz.func125 (by kernel_rfl) (f9 (by kernel_rfl))
theorem Bf4:p4 Tryz.prog 126 fun E=>i9 E Ye9:=r5 mx Tryz.func126 (by kernel_rfl) (f9 (by kernel_rfl))
theorem Bf5:p4 Tryz.prog 127 fun E=>i9 E Ze0:=r5 mx Tryz.func127 (by kernel_rfl) (f9 (by kernel_rfl))
theorem Bf6:p4 Tryz.prog 128 fun E=>i9 E qf5:=r5 mx Tryz.func128 (by kernel_rfl) (f9 (by kernel_rfl))
theorem Bf7:p4 Tryz.prog 129 fun E=>i9 E Ze1:=r5 mx Tryz.func129 (by kernel_rfl) (f9 (by kernel_rfl))
theorem Bf8:p4 Tryz.prog 130 fun E=>i9 E qf6:=r5 mx Tryz.func130 (by kernel_rfl) (f9 (by kernel_rfl))
theorem Bf9:p4 Tryz.prog 131 fun E=>i9 E qf7:=r5 mx Tryz.func131 (by kernel_rfl) (f9 (by kernel_rfl))
theorem Cf0:p4 Tryz.prog 132 fun E=>i9 E qf8:=r5 mx Tryz.func132 (by kernel_rfl) (f9 (by kernel_rfl))
theorem Cf1:p4 Tryz.prog 133 fun E=>i9 E qf9:=r5 mx Tryz.func133 (by kernel_rfl) (f9 (by kernel_rfl))
theorem Cf2:p4 Tryz.prog 134 fun E=>i9 E rf0:=r5 mx Tryz.func134 (by kernel_rfl) (f9 (by kernel_rfl))
theorem Cf3:p4 Tryz.prog 135 fun E=>i9 E rf1:=r5 mx Tryz.func135 (by kernel_rfl) (f9 (by kernel_rfl))
theorem Cf4:p4 Tryz.prog 138 fun E=>i9 E Ze2:=r5 mx Tryz.func138 (by kernel_rfl) (f9 (by kernel_rfl))
theorem Cf5:p4 Tryz.prog 139 fun E=>i9 E Ze3:=r5 mx Tryz.func139 (by kernel_rfl) (f9 (by kernel_rfl))
theorem Cf6:p4 Tryz.prog 140 fun E=>i9 E rf2:=r5 mx Tryz.func140 (by kernel_rfl) (f9 (by kernel_rfl))
theorem Cf7:p4 Tryz.prog 141 fun E=>i9 E rf3:=r5 mx Tryz.func141 (by kernel_rfl) (f9 (by kernel_rfl))
theorem Cf8:p4 Tryz.prog 142 fun E=>i9 E rf4:=r5 mx Tryz.func142 (by kernel_rfl) (f9 (by kernel_rfl))
theorem Cf9:p4 Tryz.prog 143 fun E=>i9 E rf5:=r5 mx Tryz.func143 (by kernel_rfl) (f9 (by kernel_rfl))
theorem Oe9:p4 Tryz.prog 144 fun E=>i9 E Ld0:=r5 mx Tryz.func144 (by kernel_rfl) (f9 (by kernel_rfl))
theorem Df0:p4 Tryz.prog 145 fun E=>i9 E rf6:=r5 mx Tryz.func145 (by kernel_rfl) (f9 (by kernel_rfl))
theorem Df1:p4 Tryz.prog 147 fun E=>i9 E rf7:=r5 mx Tryz.func147 (by kernel_rfl) (f9 (by kernel_rfl))
theorem Df2:p4 Tryz.prog 148 fun E=>i9 E ze8:=r5 mx Tryz.func148 (by kernel_rfl) (f9 (by kernel_rfl))
theorem Df3:p4 Tryz.prog 156 fun E=>i9 E rf8:=r5 mx Tryz.func156 (by kernel_rfl) (f9 (by kernel_rfl))
theorem Df4:p4 Tryz.prog 158 fun E=>i9 E rf9:=r5 mx Tryz.func158 (by kernel_rfl) (f9 (by kernel_rfl))
theorem Df5:p4 Tryz.prog 162 fun E=>i9 E sf0:=r5 mx Tryz.func162 (by kernel_rfl) (f9 (by kernel_rfl))
theorem Df6:p4 Tryz.prog 163 fun E=>i9 E Ze4:=r5 mx Tryz.func163 (by kernel_rfl) (f9 (by kernel_rfl))
theorem Df7:p4 Tryz.prog 164 fun E=>i9 E sf1:=r5 mx Tryz.func164 (by kernel_rfl) (f9 (by kernel_rfl))
theorem Df8:p4 Tryz.prog 173 fun E=>i9 E sf2:=r5 mx Tryz.func173 (by kernel_rfl) (f9 (by kernel_rfl))
theorem gf1:p4 Tryz.prog 174 fun E=>i9 E sf3:=r5 mx Tryz.func174 (by kernel_rfl) (f9 (by kernel_rfl))
theorem Df9:p4 Tryz.prog 175 fun E=>xb4 E ge2:=ze5 (h:=of6) mx Tryz.func175 (by kernel_rfl) Tryz.func176 (by kernel_rfl) (f9 (by kernel_rfl))
theorem Ef0:p4 Tryz.prog 177 fun E=>i9 E sf4:=r5 mx Tryz.func177 (by kernel_rfl) (f9 (by kernel_rfl))
theorem Ef1:p4 Tryz.prog 178 fun E=>i9 E sf5:=r5 mx Tryz.func178 (by kernel_rfl) (f9 (by kernel_rfl))
theorem Ef2:p4 Tryz.prog 181 fun E=>i9 E ge3:=r5 mx Tryz.func181 (by kernel_rfl) (f9 (by kernel_rfl))
theorem Ef3:p4 Tryz.prog 182 fun E=>i9 E Ze5:=r5 mx Tryz.func182 (by kernel_rfl) (f9 (by kernel_rfl))
theorem Ef4:p4 Tryz.prog 183 fun E=>i9 E sf6:=r5 mx Tryz.func183 (by kernel_rfl) (f9 (by kernel_rfl))
theorem Ef5:p4 Tryz.prog 184 fun E=>i9 E sf7:=r5 mx Tryz.func184 (by kernel_rfl) (f9 (by kernel_rfl))
theorem Ef6:p4 Tryz.prog 186 fun E=>i9 E ze9:=r5 mx Tryz.func186 (by kernel_rfl) (f9 (by kernel_rfl))
theorem Ef7:p4 Tryz.prog 188 fun E=>i9 E Ze6:=r5 mx Tryz.func188 (by kernel_rfl) (f9 (by kernel_rfl))
theorem Ef8:p4 Tryz.prog 189 fun E=>i9 E sf8:=r5 mx Tryz.func189 (by kernel_rfl) (f9 (by kernel_rfl))
theorem Ef9:p4 Tryz.prog 191 fun E=>i9 E Ze7:=r5 mx Tryz.func191 (by kernel_rfl) (f9 (by kernel_rfl))
theorem Ff0:p4 Tryz.prog 197 fun E=>i9 E sf9:=r5 mx Tryz.func197 (by kernel_rfl) (f9 (by kernel_rfl))
theorem Ff1:p4 Tryz.prog 198 fun E=>i9 E tf0:=r5 mx Tryz.func198 (by kernel_rfl) (f9 (by kernel_rfl))
theorem Ff2:p4 Tryz.prog 209 fun E=>i9 E tf1:=r5 mx Tryz.func209 (by kernel_rfl) (f9 (by kernel_rfl))
theorem Ff3:p4 Tryz.prog 210 fun E=>i9 E Ze8:=r5 mx Tryz.func210 (by kernel_rfl) (f9 (by kernel_rfl))
theorem Ff4:p4 Tryz.prog 211 fun E=>i9 E Ze9:=r5 mx Tryz.func211 (by kernel_rfl) (f9 (by kernel_rfl))
theorem Ff5:p4 Tryz.prog 220 fun E=>i9 E tf2:=r5 mx Tryz.func220 (by kernel_rfl) (f9 (by kernel_rfl))
theorem Ff6:p4 Tryz.prog 228 fun E=>i9 E tf3:=r5 mx Tryz.func228 (by kernel_rfl) (f9 (by kernel_rfl))
theorem Ff7:p4 Tryz.prog 229 fun E=>i9 E af0:=r5 mx Tryz.func229 (by kernel_rfl) (f9 (by kernel_rfl))
end Go.Ev.Ce
end
namespace Go.Ev.L
open Go Go.Ev
noncomputable def Hb7:RT→PC→PS2
 | .s a b,.seq x y=>.seq (Hb7 a x) (Hb7 b y)
 | .c a b,.cond g x y=>.cond g (Hb7 a x) (Hb7 b y)
 | .b a,.block id x=>.block id (Hb7 a x)
 | .i a,.inner f x n c=>.inner f x n (Hb7 a c)
 | .u S,_=>.sum S
 | _,c=>.pc c
theorem vd7 {E:Env} {k:Nat} (rt:RT) (c:PC):Ia2 (fun x=>∀ s,T1 (x.1 s) (J0 E k x.2 s)) (Pb4 rt c)→da4 E k (Hb7 rt c) c:=by
 induction rt generalizing c with
 | p=>intro h;cases c<;>exact .pc _
 | s a b iha ihb =>
  intro h
  cases c with
  | seq x y=>exact .seq (iha x (Ia2.app h).1) (ihb y (Ia2.app h).2)
  | _=>exact .pc _
 | c a b iha ihb =>
  intro h
  cases c with
  | cond g x y=>exact .cond g (iha x (Ia2.app h).1) (ihb y (Ia2.app h).2)
  | _=>exact .pc _
 | b a iha =>
  intro h
  cases c with
  | block id x=>exact .block id (iha x h)
  | _=>exact .pc _
 | l a iha=>intro h;cases c<;>exact .pc _
 | i a iha =>
  intro h
  cases c with
  | inner f x n c=>exact .inner f x n (iha c h)
  | _=>exact .pc _
 | u S =>
  intro h
  have:Pb4 (.u S) c=[(S,c)]:=by cases c<;>rfl
  rw[this] at h
  cases h with
  | cons h t =>
   have e:Hb7 (.u S) c=.sum S:=by cases c<;>rfl
   rw[e]
   exact .sum h
section
variable {π σ:Type} {E:Env} {k:Nat} {keep:List Nat} {alts:List (Al2 π σ)} {enc:π→σ→St} {step:π→σ→Stp σ} {xs:Xs π σ} {body:PS2} {c:PC}
theorem Gb8.belowM (hb:da4 E k body c) (hN:E.N=rounds+1) (w:Gb8 Kd9 k keep (nc7 E k body) alts step xs enc) (s:St):T1 (md7 Kd9 k keep alts step xs s) (J0 E k (.loopM keep c) s):=fun r hr=>by
 obtain⟨t,h1,h2⟩:=w.go hr
 rw[Yd5,hN]
 exact wb9 hb.le _ _ _ (Nb3 h1 h2)
theorem Gb8.belowML (hb:da4 E k body c) (hN:E.N=rounds+1) (w:Gb8 Gb5 k keep (nc7 E k body) alts step xs enc) (s:St):T1 (md7 Gb5 k keep alts step xs s) (J0 E k (.loop keep c) s):=fun r hr=>by
 obtain⟨t,h1,h2⟩:=w.go hr
 rw[md6,hN]
 exact wb9 hb.le _ _ _ (Nb3 h1 h2)
end
end Go.Ev.L
namespace Go.Ev.Ab
open Go Go.Ev
@[reducible] def o (d:Nat) (x:PO):PI:=⟨some d,none,[],x⟩
@[reducible] def s (x:PO):PI:=⟨none,none,[],x⟩
@[reducible] def ci (n:Int):Arg:=.c (.v (.int .i64 n))
@[reducible] def cb (b:Bool):Arg:=.c (.v (.bool b))
@[reducible] def vi (n:Int):b7:=.v (.int .i64 n)
@[reducible] def rep {α:Type} (n:Nat) (x:α):List α:=List.replicate n x
@[reducible] def ki (n:Nat):List CK:=List.replicate n (.int .i64)
@[reducible] def mv (d n:Nat):PI:=o d (.mv (.t n))
@[reducible] def mc (d:Nat) (n:Int):PI:=o d (.mv (ci n))
@[reducible] def mb (d:Nat) (x:Bool):PI:=o d (.mv (cb x))
@[reducible] def fd (d k n:Nat):PI:=o d (.fld k (.t n))
@[reducible] def lf (d k n:Nat):PI:=o d (.load (ki k) k false (.t n))
@[reducible] def ex (d x k:Nat):PI:=o d (.ext (.t x) k)
@[reducible] def gf (n:Nat) (x:PI):PI:=⟨x.dst,some (n,false),x.hide,x.op⟩
@[reducible] def so (l:List PI) (x:PC):PC:=.seq (.ops l) x
@[reducible] def sq (x y:PC):PC:=.seq x y
@[reducible] def ts (l:List Nat):List Arg:=l.map .t
@[reducible] def cl (f:Nat) (l:List Nat):PO:=.call f (ts l)
@[reducible] def sT (k a b:Nat):PI:=s (.store k (.t a) (.t b))
@[reducible] def pa (d c x:Nat):PI:=o d (.pick (.t c) (.t x) (cb false))
@[reducible] def po (d c x:Nat):PI:=o d (.pick (.t c) (cb true) (.t x))
@[reducible] def al (d k:Nat) (n:Int):PI:=o d (.alloc (rep k (vi n)))
@[reducible] def ap (d et es n x y:Nat):PI:=o d (.append et es n (.t x) (.t y))
end Go.Ev.Ab
namespace Go.Ev.L
open Go Go.Ev
def Cps {π σ:Type} (u:∀ {α:Type},(σ→α)→(Nat→α)→α→π→σ→α):Prop :=
 ∀ {α β:Type} (F:α→β) (k:σ→α) (e:Nat→α) (z:α) (p:π) (s:σ),F (u k e z p s)=u (fun x=>F (k x)) (fun t=>F (e t)) (F z) p s
@[reducible] noncomputable def foL {π σ:Type} (en:π→σ→St) (xs:Xs π σ) (p:π) (s:σ):Stp σ→Option (e7×St):=Gb6 (fun s'=>some (.normal,en p s')) (fun t=>xOf xs p s t 1) none
structure Lo (π σ:Type) where
 E:Env
 k:Nat
 F:PFn
 at':List Nat
 kp:List Nat
 rt:RT
 al:List (Al2 π σ)
 st:π→σ→Stp σ
 xs:Xs π σ
 en:π→σ→St
namespace Lo
variable {π σ:Type} (L:Lo π σ)
noncomputable def lc:PC:=xf3 L.at' L.F.body
noncomputable def ls:St→DT (e7×St):=md7 Gb5 L.k L.kp L.al L.st L.xs
noncomputable def lsM:St→DT (e7×St):=md7 Kd9 L.k L.kp L.al L.st L.xs
noncomputable def pr:(St→DT (e7×St))×PC:=(L.ls,.loop L.kp L.lc)
noncomputable def prM:(St→DT (e7×St))×PC:=(L.lsM,.loopM L.kp L.lc)
def Ok:Prop:=∀ s,aa0 L.k L.F.res (L.pr.1 s) (J0 L.E L.k L.pr.2 s)
def OkE:Prop:=∀ s,T1 (L.pr.1 s) (J0 L.E L.k L.pr.2 s)
def OkM:Prop:=∀ s,T1 (L.prM.1 s) (J0 L.E L.k L.prM.2 s)
def Rd (hd:St→DT St) (bd:St→DT (e7×St)) (p:π) (s:σ) (a:St) (b:Stp σ):Prop:=(xb0 hd bd a).run=foL L.en L.xs p s b
def H0:Prop:=∀ p s,L.Rd (Gb5 L.k L.kp) (ee4 L.E L.k L.F.res (dd2 L.rt L.lc)) p s (L.en p s) (L.st p s)
def H1:Prop:=∀ p s,L.Rd (Gb5 L.k L.kp) (nc7 L.E L.k (Hb7 L.rt L.lc)) p s (L.en p s) (L.st p s)
def H2:Prop:=∀ p s,L.Rd (Kd9 L.k L.kp) (nc7 L.E L.k (Hb7 L.rt L.lc)) p s (L.en p s) (L.st p s)
def HA:Prop:=Ia2 (fun x=>∀ a H,(⟨ne4 x.sh a,ne5 x.bl H⟩:St)=L.en (x.rd a H).1 (x.rd a H).2) L.al
variable {L}
theorem Rd.of {hd : St → DT St} {bd : St → DT (e7 × St)} {p : π} {s : σ} {a : St} (u : ∀ {α : Type}, (σ → α) → (Nat → α) → α → π → σ → α)
  (q:Cps @u) (H:(xb0 hd bd a).run=u (fun x=>foL L.en L.xs p s (.next x)) (fun t=>foL L.en L.xs p s (.exit t)) (foL L.en L.xs p s .fail) p s):L.Rd hd bd p s a (u .next .exit .fail p s) :=
 H.trans (q (foL L.en L.xs p s) Stp.next Stp.exit Stp.fail p s).symm
theorem Rd.sel {hd:St→DT St} {bd:St→DT (e7×St)} {p:π} {s:σ} {a1 a0:St} {b1 b0:Stp σ} (c:Bool) (h1:L.Rd hd bd p s a1 b1) (h0:L.Rd hd bd p s a0 b0):L.Rd hd bd p s (sel c a1 a0) (sel c b1 b0):=by
 cases c with
 | true=>exact h1
 | false=>exact h0
theorem ok (l:List ((St→DT (e7×St))×PC)) (hs:Pb4 L.rt L.lc=l) (hl:Ia2 (fun x=>∀ s,aa0 L.k L.F.res (x.1 s) (J0 L.E L.k x.2 s)) l) (hN:L.E.N=rounds+1) (ha:L.HA) (h:L.H0):L.Ok :=
 Gb8.belowC (fe4 _ _ (by rw[hs];exact hl)) hN ⟨ha,h⟩
theorem okE (l:List ((St→DT (e7×St))×PC)) (hs:Pb4 L.rt L.lc=l) (hl:Ia2 (fun x=>∀ s,T1 (x.1 s) (J0 L.E L.k x.2 s)) l) (hN:L.E.N=rounds+1) (ha:L.HA) (h:L.H1):L.OkE :=
 Gb8.belowML (vd7 _ _ (by rw[hs];exact hl)) hN ⟨ha,h⟩
theorem okM (l:List ((St→DT (e7×St))×PC)) (hs:Pb4 L.rt L.lc=l) (hl:Ia2 (fun x=>∀ s,T1 (x.1 s) (J0 L.E L.k x.2 s)) l) (hN:L.E.N=rounds+1) (ha:L.HA) (h:L.H2):L.OkM :=
 Gb8.belowM (vd7 _ _ (by rw[hs];exact hl)) hN ⟨ha,h⟩
end Lo
theorem sa8 {E : Env} {F : PFn} {args : List b7} {blks : List b8} {o : Option (b7 × List b8)} (rt : RT) (l : List ((St → DT (e7 × St)) × PC)) (hs : Pb4 rt F.body = l)
  (hl:Ia2 (fun x=>∀ s,aa0 (len blks) F.res (x.1 s) (J0 E (len blks) x.2 s)) l) (h:(nf7 E F (dd2 rt F.body) args blks).run=o) (r:b7×List b8) (hr:o=some r):(i9 E F args blks).run=some r :=
 Xd1 (fe4 rt _ (by rw[hs];exact hl)) r (h.trans hr)
theorem Ld1 {E : Env} {F : PFn} {args : List b7} {blks : List b8} {o : Option (b7 × List b8)} (rt : RT) (l : List ((St → DT (e7 × St)) × PC)) (hs : Pb4 rt F.body = l)
  (hl:Ia2 (fun x=>∀ s,T1 (x.1 s) (J0 E (len blks) x.2 s)) l) (h:(Ye5 E F (Hb7 rt F.body) args blks).run=o) (r:b7×List b8) (hr:o=some r):(xb4 E F args blks).run=some r :=
 Kd8 (vd7 rt _ (by rw[hs];exact hl)) r (h.trans hr)
theorem p5 {A o:Option (b7×List b8)} (h:A=o) (r:b7×List b8) (hr:o=some r):A=some r:=h.trans hr
end Go.Ev.L
namespace Go.Ev.Ce
structure V3 where
 x:Int
 y:Int
 z:Int
structure Pln where
 n:V3
 b:Int
structure Pt where
 px:Int
 py:Int
 pz:Int
 pw:Int
def f7 (a b:V3):V3:=⟨a.y*b.z - a.z*b.y,a.z*b.x - a.x*b.z,a.x*b.y - a.y*b.x⟩
def dot (a b:V3):Int:=a.x*b.x+a.y*b.y+a.z*b.z
def mw (p q r:Pln):Int:=dot p.n (f7 q.n r.n)
end Go.Ev.Ce
namespace Go.Ev.Ce
open Go Go.Ev Go.Ev.L Go.Proofs
@[reducible] noncomputable def prog:Program:=Tryz.prog
noncomputable def G:Nat→List Value:=fun _=>[]
noncomputable def En (l:List (Nat×Sum)):Env:={ P:=prog,G,fns:=fun _=>none,call:=ef0 l,own:=fun f j=>Bool.and (Sa4 f [150,121,154,91,139,144,146,148]) (Nat.beq j 0),N:=18446744073709551616 }
@[reducible] def u:b7:=.v (.tuple #[])
theorem tf4 {l:List (Nat×Sum)} (h:i7 prog G l):∀ f,g8 (En l).P (En l).G f ((En l).call f):=ee3 h
theorem bd {l:List (Nat×Sum)} {f:FuncId} {R:Env→Sum} (b:p4 prog f R) (h:i7 prog G l):g8 prog G f (R (En l)):=b rfl (tf4 h)
noncomputable def tV:Ty V3 where
 es:=3
 row x:=[i x.x,i x.y,i x.z]
 rd r:=⟨toI (hdA r),toI (hdA (tlA r)),toI (hdA (tlA (tlA r)))⟩
 ok r:=ya8 3 r
 cks:=List.replicate 3 (.int .i64)
 d:=⟨0,0,0⟩
 h0 _:=rfl
 h1 _:=rfl
 h2 _:=rfl
 h3 _ h:=.of (Oa4 h)
 h4 _:=rfl
 h5 _:=rfl
noncomputable def r1V:R1 V3:=r1A tV 3 fun _ h=>h
noncomputable def tP:Ty Pln where
 es:=4
 row x:=[i x.n.x,i x.n.y,i x.n.z,i x.b]
 rd r:=⟨⟨toI (hdA r),toI (hdA (tlA r)),toI (hdA (tlA (tlA r)))⟩,toI (hdA (tlA (tlA (tlA r))))⟩
 ok r:=ya8 4 r
 cks:=List.replicate 4 (.int .i64)
 d:=⟨⟨0,0,0⟩,0⟩
 h0 _:=rfl
 h1 _:=rfl
 h2 _:=rfl
 h3 _ h:=.of (Oa4 h)
 h4 _:=rfl
 h5 _:=rfl
noncomputable def r1P:R1 Pln:=r1A tP 4 fun _ h=>h
noncomputable def tX:Ty Pt where
 es:=4
 row x:=[i x.px,i x.py,i x.pz,i x.pw]
 rd r:=⟨toI (hdA r),toI (hdA (tlA r)),toI (hdA (tlA (tlA r))),toI (hdA (tlA (tlA (tlA r))))⟩
 ok r:=ya8 4 r
 cks:=List.replicate 4 (.int .i64)
 d:=⟨0,0,0,0⟩
 h0 _:=rfl
 h1 _:=rfl
 h2 _:=rfl
 h3 _ h:=.of (Oa4 h)
 h4 _:=rfl
 h5 _:=rfl
noncomputable def r1X:R1 Pt:=r1A tX 4 fun _ h=>h
structure Tp where
 p:Pln
 q:Pln
 r:Pln
structure Q2 where
 a:V3
 b:V3
end Go.Ev.Ce
section
namespace Go.Ev.Ce
open Go Go.Ev Go.Ev.L Go.Proofs
set_option maxRecDepth 100000
noncomputable def Ld2:List (Nat×Sum):=[]
theorem vd8:i7 prog G Ld2:=trivial
noncomputable def db5 (x:Pln) (y:Pt):Int:=(W ((W ((W ((W (x.b*y.pw)) - (W (x.n.x*y.px)))) - (W (x.n.y*y.py)))) - (W (x.n.z*y.pz))))
noncomputable def Wb4:Sum:=Z9 (B0 tP) (B0 tX) (fun x y=>.ret ((one r1I).enc (db5 x y),[]))
theorem wc6:g8 prog G 158 Wb4:=ra7 (bd Df4 vd8) fun x y=>p5 (by kernel_rfl)
noncomputable def Yd6:List (Nat×Sum):=[]
theorem Ld3:i7 prog G Yd6:=trivial
noncomputable def bb1 (x:V3) (y:V3):V3:=(⟨(W (x.x+y.x)),(W (x.y+y.y)),(W (x.z+y.z))⟩:V3)
noncomputable def nd7:Sum:=Z9 (B0 tV) (B0 tV) (fun x y=>.ret ((one r1V).enc (bb1 x y),[]))
theorem Yd7:g8 prog G 80 nd7:=ra7 (bd b80 Ld3) fun x y=>p5 (by kernel_rfl)
noncomputable def Yd8:List (Nat×Sum):=[]
theorem Ld4:i7 prog G Yd8:=trivial
noncomputable def Fa8 (x:V3) (y:V3):Int:=(W ((W ((W (x.x*y.x))+(W (x.y*y.y))))+(W (x.z*y.z))))
noncomputable def Nb8:Sum:=Z9 (B0 tV) (B0 tV) (fun x y=>.ret ((one r1I).enc (Fa8 x y),[]))
theorem Wb5:g8 prog G 84 Nb8:=ra7 (bd b84 Ld4) fun x y=>p5 (by kernel_rfl)
noncomputable def vd9:List (Nat×Sum):=[]
theorem dd4:i7 prog G vd9:=trivial
noncomputable def P5 (x:V3) (y:V3):V3:=(⟨(W ((W (x.y*y.z)) - (W (x.z*y.y)))),(W ((W (x.z*y.x)) - (W (x.x*y.z)))),(W ((W (x.x*y.y)) - (W (x.y*y.x))))⟩:V3)
noncomputable def Hb8:Sum:=Z9 (B0 tV) (B0 tV) (fun x y=>.ret ((one r1V).enc (P5 x y),[]))
theorem ec2:g8 prog G 164 Hb8:=ra7 (bd Df7 dd4) fun x y=>p5 (by kernel_rfl)
noncomputable def dd5:List (Nat×Sum):=[]
theorem Pc3:i7 prog G dd5:=trivial
noncomputable def M0 (x:V3) (y:Int):V3:=(⟨(W (x.x*y)),(W (x.y*y)),(W (x.z*y))⟩:V3)
noncomputable def ec3:Sum:=Z9 (B0 tV) cI (fun x y=>.ret ((one r1V).enc (M0 x y),[]))
theorem dd6:g8 prog G 228 ec3:=ra7 (bd Ff6 Pc3) fun x y=>p5 (by kernel_rfl)
noncomputable def Rb8:List (Nat×Sum):=[]
theorem Pc4:i7 prog G Rb8:=trivial
structure sa9 where
structure U4 where
 is0:Int
 is1:Int
noncomputable def zc7 (p:sa9) (s:U4):St:=⟨((i s.is0)::((i s.is1)::(ra 10 []))),[]⟩
noncomputable def ka2 {α:Type} (k:U4→α) (e:Nat→α) (z:α) (p:sa9) (s:U4):α:=(sl (s.is1 != 0) (sl (s.is1==0) z (k ⟨s.is1,(Int.tmod s.is0 s.is1)⟩)) (e 1))
noncomputable def na1 (p:sa9) (s:U4):Stp U4:=ka2 .next .exit .fail p s
noncomputable def db6:Lo sa9 U4:=⟨En Rb8,0,af0,[1,0,4,4],[0,1],.p,[⟨((.s (.o (.int .i64)))::((.s (.o (.int .i64)))::(ru2 10 []))),[],fun a H=>(⟨⟩,⟨(toI (slT a 0)),(toI (slT a 1))⟩)⟩],na1,[(some 0,fun p s=>⟨((i s.is0)::((i s.is1)::(ra 3 ((i s.is1)::((b (s.is1 != 0))::(ra 5 [])))))),[]⟩)],zc7⟩
theorem zc8:db6.Ok:=Lo.ok [] (by kernel_rfl) .nil rfl (.cons (fun a H=>by kernel_rfl) .nil) fun p s=>(.of @ka2 (fun F _ _ _ _ _=>by unfold ka2;(repeat' apply k9 (f:=F))<;>rfl) (by kernel_rfl))
noncomputable def Ia4 (x:Int) (y:Int):Option (b7×List b8):=let t1:=(lp (na1 (⟨⟩:sa9)) (⟨x,y⟩:U4));(sl (Nat.beq t1.1 1) (some ((i t1.2.is0),[])) none)
noncomputable def M1 (x:Int) (y:Int):Int:=C9 (one r1I) (Ia4 x y)
noncomputable def M2 (x:Int) (y:Int):Bool:=okO (one r1I) (Ia4 x y)
noncomputable def ec4:Sum:=Z9 cI cI (fun x y=>.guard (M2 x y) (.ret ((one r1I).enc (M1 x y),[])))
theorem dd7:g8 prog G 229 ec4:=Ia3 (bd Ff7 Pc4) (one r1I) (o:=Ia4) fun x y=>sa8 (.s .p (.s (.b (.u db6.ls)) .p)) [db6.pr] (by kernel_rfl) (.cons zc8 .nil) (by kernel_rfl)
noncomputable def Ld5:List (Nat×Sum):=[(164,Hb8),(84,Nb8),(228,ec3),(80,nd7),(229,ec4)]
theorem wd0:i7 prog G Ld5:=⟨ec2,Wb5,dd6,Yd7,dd7,trivial⟩
noncomputable def db7 (x:Pln) (y:Pln) (z:Pln):Option (b7×List b8):=let t1:=(P5 y.n z.n);let t2:=(Fa8 x.n t1);let t3:=(M0 t1 x.b);let t4:=(P5 z.n x.n);let t5:=(M0 t4 y.b);let t6:=(bb1 t3 t5);let t7:=(P5 x.n y.n);let t8:=(M0 t7 z.b);let t9:=(bb1 t6 t8);let t10:=(M0 t9 (-1));let t11:=(M1 (if (W (0 - t10.x)) > t10.x then (W (0 - t10.x)) else t10.x) (if (W (0 - t10.y)) > t10.y then (W (0 - t10.y)) else t10.y));let t12:=(M1 (if (W (0 - t10.z)) > t10.z then (W (0 - t10.z)) else t10.z) (W (0 - t2)));let t13:=(M1 t11 t12);let t14:=(M1 (if (W (0 - t9.x)) > t9.x then (W (0 - t9.x)) else t9.x) (if (W (0 - t9.y)) > t9.y then (W (0 - t9.y)) else t9.y));let t15:=(M1 (if (W (0 - t9.z)) > t9.z then (W (0 - t9.z)) else t9.z) t2);let t16:=(M1 t14 t15);(sl (t2==0) (some ((.tup [(.agg [(i 0),(i 0),(i 0),(i 0)]),(b false)]),[])) (sl (decide (t2 < 0)) (sl (M2 (if (W (0 - t10.x)) > t10.x then (W (0 - t10.x)) else t10.x) (if (W (0 - t10.y)) > t10.y then (W (0 - t10.y)) else t10.y)) (sl (M2 (if (W (0 - t10.z)) > t10.z then (W (0 - t10.z)) else t10.z) (W (0 - t2))) (sl (M2 t11 t12) (sl (t13==0) none (sl (t13==0) none (sl (t13==0) none (sl (t13==0) none (some ((.tup [(.agg [(i (W (Int.tdiv t10.x t13))),(i (W (Int.tdiv t10.y t13))),(i (W (Int.tdiv t10.z t13))),(i (W (Int.tdiv (W (0 - t2)) t13)))]),(b true)]),[])))))) none) none) none) (sl (M2 (if (W (0 - t9.x)) > t9.x then (W (0 - t9.x)) else t9.x) (if (W (0 - t9.y)) > t9.y then (W (0 - t9.y)) else t9.y)) (sl (M2 (if (W (0 - t9.z)) > t9.z then (W (0 - t9.z)) else t9.z) t2) (sl (M2 t14 t15) (sl (t16==0) none (sl (t16==0) none (sl (t16==0) none (sl (t16==0) none (some ((.tup [(.agg [(i (W (Int.tdiv t9.x t16))),(i (W (Int.tdiv t9.y t16))),(i (W (Int.tdiv t9.z t16))),(i (W (Int.tdiv t2 t16)))]),(b true)]),[])))))) none) none) none)))
noncomputable def db8 (x:Pln) (y:Pln) (z:Pln):Pt×Bool:=C9 (two r1X r1B) (db7 x y z)
noncomputable def db9 (x:Pln) (y:Pln) (z:Pln):Bool:=okO (two r1X r1B) (db7 x y z)
noncomputable def Pc5:Sum:=Nc5 (B0 tP) (B0 tP) (B0 tP) (fun x y z=>.guard (db9 x y z) (.ret ((two r1X r1B).enc (db8 x y z),[])))
theorem Ld6:g8 prog G 209 Pc5:=Me8 (bd Ff2 wd0) (two r1X r1B) (o:=db7) fun x y z=>p5 (by kernel_rfl)
noncomputable def nd8:List (Nat×Sum):=[(158,Wb4)]
theorem Yd9:i7 prog G nd8:=⟨wc6,trivial⟩
structure eb0 where
 d8:List Pln
 c9:Int
 c7:Int
 d7:Int
 g7:Int
structure la2 where
 is5:Int
noncomputable def Ld7 (p:eb0) (s:la2):St:=⟨((eL tP p.d8)::(.unk::(.unk::((.ptr 0 0 0 0)::(.unk::((i s.is5)::(ra 13 []))))))),[⟨0,4,[[(i p.c9),(i p.c7),(i p.d7),(i p.g7)]],true,false,0⟩]⟩
noncomputable def Ia5 {α:Type} (k:la2→α) (e:Nat→α) (z:α) (p:eb0) (s:la2):α:=let t1:=(db5 (gL tP p.d8 s.is5.toNat) (⟨p.c9,p.c7,p.d7,p.g7⟩:Pt));(sl (decide (s.is5 < (↑(List.length p.d8):Int))) (sl (inB s.is5 (List.length p.d8)) (sl (decide (t1 < 0)) (e 1) (k ⟨(W (s.is5+1))⟩)) z) (e 2))
noncomputable def Sa5 (p:eb0) (s:la2):Stp la2:=Ia5 .next .exit .fail p s
noncomputable def Wb6:Lo eb0 la2:=⟨En nd8,0,Ze8,[1,0,1,4,4],[0,3,5],.p,[⟨((.s (.c 4 (nL tP)))::((.s (.o .unk))::((.s (.o .unk))::((.s (.o (.ptr 0 0 0 0)))::((.s (.o .unk))::((.s (.o (.int .i64)))::(ru2 13 []))))))),[⟨0,4,true,(some [[(.o (.int .i64)),(.o (.int .i64)),(.o (.int .i64)),(.o (.int .i64))]])⟩],fun a H=>(⟨(rL tP (slT a 0)),(toI (slT (rwT (elT H 0) 0) 0)),(toI (slT (rwT (elT H 0) 0) 1)),(toI (slT (rwT (elT H 0) 0) 2)),(toI (slT (rwT (elT H 0) 0) 3))⟩,⟨(toI (slT a 5))⟩)⟩],Sa5,[(none,fun p s=>⟨[(b false)],[]⟩),(some 0,fun p s=>⟨((eL tP p.d8)::(.unk::(.unk::((.ptr 0 0 0 0)::(.unk::((i s.is5)::((i s.is5)::((eL tP p.d8)::((i (↑(List.length p.d8):Int))::((b (decide (s.is5 < (↑(List.length p.d8):Int))))::(ra 9 []))))))))))),[⟨0,4,[[(i p.c9),(i p.c7),(i p.d7),(i p.g7)]],true,false,0⟩]⟩)],Ld7⟩
theorem Ld8:Wb6.Ok:=Lo.ok [] (by kernel_rfl) .nil rfl (.cons (fun a H=>by kernel_rfl) .nil) fun p s=>(.of @Ia5 (fun F _ _ _ _ _=>by unfold Ia5;(repeat' apply k9 (f:=F))<;>rfl) (by kernel_rfl))
noncomputable def Hb9 (x:List Pln) (y:Pt):Option (b7×List b8):=let t1:=(lp (Sa5 (⟨(rt tP x),y.px,y.py,y.pz,y.pw⟩:eb0)) (⟨0⟩:la2));(sl ((cnE tP x)&&true) (sl (Nat.beq t1.1 1) (some ((b false),[])) (sl (Nat.beq t1.1 2) (some ((b true),[])) none)) none)
noncomputable def sb0 (x:List Pln) (y:Pt):Bool:=C9 (one r1B) (Hb9 x y)
noncomputable def sb1 (x:List Pln) (y:Pt):Bool:=okO (one r1B) (Hb9 x y)
noncomputable def Ld9:Sum:=Z9 (fa0 tP) (B0 tX) (fun x y=>.guard (sb1 x y) (.ret ((one r1B).enc (sb0 x y),[])))
theorem pe3:g8 prog G 210 Ld9:=Ia3 (bd Ff3 Yd9) (one r1B) (o:=Hb9) fun x y=>sa8 (.s .p (.s (.s .p (.b (.u Wb6.ls))) .p)) [Wb6.pr] (by kernel_rfl) (.cons Ld8 .nil) (by kernel_rfl)
noncomputable def ec5:List (Nat×Sum):=[]
theorem dd8:i7 prog G ec5:=trivial
structure za7 where
 Ua5:List Pt
 c9:Int
 c7:Int
 d7:Int
 g7:Int
structure T3 where
 is5:Int
noncomputable def Pc6 (p:za7) (s:T3):St:=⟨((eL tX p.Ua5)::(.unk::(.unk::((.ptr 0 0 0 0)::(.unk::((i s.is5)::(ra 12 []))))))),[⟨0,4,[[(i p.c9),(i p.c7),(i p.d7),(i p.g7)]],true,false,0⟩]⟩
noncomputable def na2 {α:Type} (k:T3→α) (e:Nat→α) (z:α) (p:za7) (s:T3):α:=(sl (decide (s.is5 < (↑(List.length p.Ua5):Int))) (sl (inB s.is5 (List.length p.Ua5)) (sl (((gL tX p.Ua5 s.is5.toNat).px==p.c9)&&(((gL tX p.Ua5 s.is5.toNat).py==p.c7)&&(((gL tX p.Ua5 s.is5.toNat).pz==p.d7)&&(((gL tX p.Ua5 s.is5.toNat).pw==p.g7)&&true)))) (e 1) (k ⟨(W (s.is5+1))⟩)) z) (e 2))
noncomputable def ta0 (p:za7) (s:T3):Stp T3:=na2 .next .exit .fail p s
noncomputable def nb7:Lo za7 T3:=⟨En ec5,0,Ze9,[1,0,1,4,4],[0,3,5],.p,[⟨((.s (.c 4 (nL tX)))::((.s (.o .unk))::((.s (.o .unk))::((.s (.o (.ptr 0 0 0 0)))::((.s (.o .unk))::((.s (.o (.int .i64)))::(ru2 12 []))))))),[⟨0,4,true,(some [[(.o (.int .i64)),(.o (.int .i64)),(.o (.int .i64)),(.o (.int .i64))]])⟩],fun a H=>(⟨(rL tX (slT a 0)),(toI (slT (rwT (elT H 0) 0) 0)),(toI (slT (rwT (elT H 0) 0) 1)),(toI (slT (rwT (elT H 0) 0) 2)),(toI (slT (rwT (elT H 0) 0) 3))⟩,⟨(toI (slT a 5))⟩)⟩],ta0,[(none,fun p s=>⟨[(b true)],[]⟩),(some 0,fun p s=>⟨((eL tX p.Ua5)::(.unk::(.unk::((.ptr 0 0 0 0)::(.unk::((i s.is5)::((i s.is5)::((eL tX p.Ua5)::((i (↑(List.length p.Ua5):Int))::((b (decide (s.is5 < (↑(List.length p.Ua5):Int))))::(ra 8 []))))))))))),[⟨0,4,[[(i p.c9),(i p.c7),(i p.d7),(i p.g7)]],true,false,0⟩]⟩)],Pc6⟩
theorem Pc7:nb7.Ok:=Lo.ok [] (by kernel_rfl) .nil rfl (.cons (fun a H=>by kernel_rfl) .nil) fun p s=>(.of @na2 (fun F _ _ _ _ _=>by unfold na2;(repeat' apply k9 (f:=F))<;>rfl) (by kernel_rfl))
noncomputable def Sa6 (x:List Pt) (y:Pt):Option (b7×List b8):=let t1:=(lp (ta0 (⟨(rt tX x),y.px,y.py,y.pz,y.pw⟩:za7)) (⟨0⟩:T3));(sl ((cnE tX x)&&true) (sl (Nat.beq t1.1 1) (some ((b true),[])) (sl (Nat.beq t1.1 2) (some ((b false),[])) none)) none)
noncomputable def Fa9 (x:List Pt) (y:Pt):Bool:=C9 (one r1B) (Sa6 x y)
noncomputable def Ga0 (x:List Pt) (y:Pt):Bool:=okO (one r1B) (Sa6 x y)
noncomputable def wc7:Sum:=Z9 (fa0 tX) (B0 tX) (fun x y=>.guard (Ga0 x y) (.ret ((one r1B).enc (Fa9 x y),[])))
theorem wd1:g8 prog G 211 wc7:=Ia3 (bd Ff4 dd8) (one r1B) (o:=Sa6) fun x y=>sa8 (.s .p (.s (.s .p (.b (.u nb7.ls))) .p)) [nb7.pr] (by kernel_rfl) (.cons Pc7 .nil) (by kernel_rfl)
noncomputable def Ia6:List (Nat×Sum):=[(209,Pc5),(210,Ld9),(211,wc7)]
theorem zc9:i7 prog G Ia6:=⟨Ld6,pe3,wd1,trivial⟩
structure K4 where
 d8:List Pln
 is4:Int
 is5:Int
structure o6 where
 ph:Nat
 is6:Int
 ns3:Nat
 eh0:List (List b7)
noncomputable def ec6 (p:K4) (s:o6):St:=⟨((eL tP p.d8)::(.unk::(.unk::((.v (.slice none 0 0))::((i p.is4)::((i p.is5)::((i s.is6)::(ra 57 [])))))))),[]⟩
noncomputable def ec7 (p:K4) (s:o6):St:=⟨((eL tP p.d8)::(.unk::(.unk::((.sl 0 0 s.ns3 0)::((i p.is4)::((i p.is5)::((i s.is6)::(ra 57 [])))))))),[⟨136,4,s.eh0,true,false,0⟩]⟩
noncomputable def nc8 (p:K4) (s:o6):St:=(sel (Nat.beq s.ph 1) (ec7 p s) (ec6 p s))
noncomputable def M3 {α:Type} (k:o6→α) (e:Nat→α) (z:α) (p:K4) (s:o6):α:=let t1:=(db8 (gL tP p.d8 p.is4.toNat) (gL tP p.d8 p.is5.toNat) (gL tP p.d8 s.is6.toNat));let t2:=(sb0 (rt tP p.d8) t1.1);let t3:=(Fa9 [] t1.1);(sl (decide (s.is6 < (↑(List.length p.d8):Int))) (sl (inB p.is4 (List.length p.d8)) (sl (inB p.is5 (List.length p.d8)) (sl (inB s.is6 (List.length p.d8)) (sl (db9 (gL tP p.d8 p.is4.toNat) (gL tP p.d8 p.is5.toNat) (gL tP p.d8 s.is6.toNat)) (sl t1.2 (sl (okE tP p.d8) (sl (sb1 (rt tP p.d8) t1.1) (sl t2 (sl (Ga0 [] t1.1) (sl (!t3) (k ⟨1,(W (s.is6+1)),1,[[(i t1.1.px),(i t1.1.py),(i t1.1.pz),(i t1.1.pw)]]⟩) (k ⟨0,(W (s.is6+1)),0,[]⟩)) z) (k ⟨0,(W (s.is6+1)),0,[]⟩)) z) z) (k ⟨0,(W (s.is6+1)),0,[]⟩)) z) z) z) z) (e 1))
noncomputable def M4 {α:Type} (k:o6→α) (e:Nat→α) (z:α) (p:K4) (s:o6):α:=let t1:=(db8 (gL tP p.d8 p.is4.toNat) (gL tP p.d8 p.is5.toNat) (gL tP p.d8 s.is6.toNat));let t2:=(sb0 (rt tP p.d8) t1.1);let t3:=(Fa9 (slR tX s.eh0 0 s.ns3) t1.1);(sl (decide (s.is6 < (↑(List.length p.d8):Int))) (sl (inB p.is4 (List.length p.d8)) (sl (inB p.is5 (List.length p.d8)) (sl (inB s.is6 (List.length p.d8)) (sl (db9 (gL tP p.d8 p.is4.toNat) (gL tP p.d8 p.is5.toNat) (gL tP p.d8 s.is6.toNat)) (sl t1.2 (sl (okE tP p.d8) (sl (sb1 (rt tP p.d8) t1.1) (sl t2 (sl (okS tX s.eh0 0 s.ns3) (sl (Ga0 (slR tX s.eh0 0 s.ns3) t1.1) (sl (!t3) (sl (Nat.beq s.ns3 (len s.eh0)&&Nat.ble ((s.ns3+1)*32) room) (k ⟨1,(W (s.is6+1)),(s.ns3+1),(app s.eh0 [[(i t1.1.px),(i t1.1.py),(i t1.1.pz),(i t1.1.pw)]])⟩) z) (k ⟨1,(W (s.is6+1)),s.ns3,s.eh0⟩)) z) z) (k ⟨1,(W (s.is6+1)),s.ns3,s.eh0⟩)) z) z) (k ⟨1,(W (s.is6+1)),s.ns3,s.eh0⟩)) z) z) z) z) (e 2))
noncomputable def L3 (p:K4) (s:o6):Stp o6:=(sel (Nat.beq s.ph 1) (M4 .next .exit .fail p s) (M3 .next .exit .fail p s))
noncomputable def Va3:Lo K4 o6:=⟨En Ia6,0,ge3,[1,1,0,1,4,4,1,0,4,1,4,4,1,0,4,1,4,4],[0,3,4,5,6],.p,[⟨((.s (.c 4 (nL tP)))::((.s (.o .unk))::((.s (.o .unk))::((.s (.o .nil))::((.s (.o (.int .i64)))::((.s (.o (.int .i64)))::((.s (.o (.int .i64)))::(ru2 57 [])))))))),[],fun a H=>(⟨(rL tP (slT a 0)),(toI (slT a 4)),(toI (slT a 5))⟩,⟨0,(toI (slT a 6)),0,[]⟩)⟩,⟨((.s (.c 4 (nL tP)))::((.s (.o .unk))::((.s (.o .unk))::((.s (.o (.sl 0 0 (some 0) none)))::((.s (.o (.int .i64)))::((.s (.o (.int .i64)))::((.s (.o (.int .i64)))::(ru2 57 [])))))))),[⟨136,4,true,none⟩],fun a H=>(⟨(rL tP (slT a 0)),(toI (slT a 4)),(toI (slT a 5))⟩,⟨1,(toI (slT a 6)),(slN (slT a 3)),(elT H 0)⟩)⟩],L3,[(some 4,fun p s=>⟨((eL tP p.d8)::(.unk::(.unk::((.v (.slice none 0 0))::((i p.is4)::((i p.is5)::((i s.is6)::(ra 18 ((i s.is6)::((eL tP p.d8)::((i (↑(List.length p.d8):Int))::((b (decide (s.is6 < (↑(List.length p.d8):Int))))::(ra 35 []))))))))))))),[]⟩),(some 4,fun p s=>⟨((eL tP p.d8)::(.unk::(.unk::((.sl 0 0 s.ns3 0)::((i p.is4)::((i p.is5)::((i s.is6)::(ra 18 ((i s.is6)::((eL tP p.d8)::((i (↑(List.length p.d8):Int))::((b (decide (s.is6 < (↑(List.length p.d8):Int))))::(ra 35 []))))))))))))),[⟨136,4,s.eh0,true,false,0⟩]⟩)],nc8⟩
theorem nc9:Va3.Ok:=Lo.ok [] (by kernel_rfl) .nil rfl (.cons (fun a H=>by kernel_rfl) (.cons (fun a H=>by kernel_rfl) .nil)) fun p s=>(.sel (Nat.beq s.ph 1) (.of @M4 (fun F _ _ _ _ _=>by unfold M4;(repeat' apply k9 (f:=F))<;>rfl) (by kernel_rfl)) (.of @M3 (fun F _ _ _ _ _=>by unfold M3;(repeat' apply k9 (f:=F))<;>rfl) (by kernel_rfl)))
structure K5 where
 is4:Int
structure q8 where
 ph:Nat
 d8:List Pln
 is5:Int
 ns3:Nat
 eh0:List (List b7)
noncomputable def ec8 (p:K5) (s:q8):St:=⟨((eL tP s.d8)::(.unk::(.unk::((.v (.slice none 0 0))::((i p.is4)::((i s.is5)::(ra 58 []))))))),[]⟩
noncomputable def ec9 (p:K5) (s:q8):St:=⟨((eL tP s.d8)::(.unk::(.unk::((.sl 0 0 s.ns3 0)::((i p.is4)::((i s.is5)::(ra 58 []))))))),[⟨136,4,s.eh0,true,false,0⟩]⟩
noncomputable def oc0 (p:K5) (s:q8):St:=(sel (Nat.beq s.ph 1) (ec9 p s) (ec8 p s))
noncomputable def M5 {α:Type} (k:q8→α) (e:Nat→α) (z:α) (p:K5) (s:q8):α:=let t1:=(lp (L3 (⟨(rt tP s.d8),p.is4,s.is5⟩:K4)) (⟨0,(W (s.is5+1)),0,[]⟩:o6));(sl (decide (s.is5 < (↑(List.length s.d8):Int))) (sl ((cnE tP s.d8)&&true) (sl (Nat.beq t1.1 1) (k ⟨0,(rt tP s.d8),(W (s.is5+1)),0,[]⟩) (sl (Nat.beq t1.1 2) (k ⟨1,(rt tP s.d8),(W (s.is5+1)),t1.2.ns3,t1.2.eh0⟩) z)) z) (e 1))
noncomputable def M6 {α:Type} (k:q8→α) (e:Nat→α) (z:α) (p:K5) (s:q8):α:=let t1:=(lp (L3 (⟨(rt tP s.d8),p.is4,s.is5⟩:K4)) (⟨1,(W (s.is5+1)),s.ns3,s.eh0⟩:o6));(sl (decide (s.is5 < (↑(List.length s.d8):Int))) (sl ((cnE tP s.d8)&&true) (sl (Nat.beq t1.1 1) (k ⟨0,(rt tP s.d8),(W (s.is5+1)),0,[]⟩) (sl (Nat.beq t1.1 2) (k ⟨1,(rt tP s.d8),(W (s.is5+1)),t1.2.ns3,t1.2.eh0⟩) z)) z) (e 2))
noncomputable def G6 (p:K5) (s:q8):Stp q8:=(sel (Nat.beq s.ph 1) (M6 .next .exit .fail p s) (M5 .next .exit .fail p s))
noncomputable def Va4:Lo K5 q8:=⟨En Ia6,0,ge3,[1,1,0,1,4,4,1,0,4,1,4,4],[0,3,4,5],(.s .p (.s (.b (.s .p (.b (.u Va3.ls)))) .p)),[⟨((.s (.c 4 (nL tP)))::((.s (.o .unk))::((.s (.o .unk))::((.s (.o .nil))::((.s (.o (.int .i64)))::((.s (.o (.int .i64)))::(ru2 58 []))))))),[],fun a H=>(⟨(toI (slT a 4))⟩,⟨0,(rL tP (slT a 0)),(toI (slT a 5)),0,[]⟩)⟩,⟨((.s (.c 4 (nL tP)))::((.s (.o .unk))::((.s (.o .unk))::((.s (.o (.sl 0 0 (some 0) none)))::((.s (.o (.int .i64)))::((.s (.o (.int .i64)))::(ru2 58 []))))))),[⟨136,4,true,none⟩],fun a H=>(⟨(toI (slT a 4))⟩,⟨1,(rL tP (slT a 0)),(toI (slT a 5)),(slN (slT a 3)),(elT H 0)⟩)⟩],G6,[(some 2,fun p s=>⟨((eL tP s.d8)::(.unk::(.unk::((.v (.slice none 0 0))::((i p.is4)::((i s.is5)::(ra 11 ((i s.is5)::((eL tP s.d8)::((i (↑(List.length s.d8):Int))::((b (decide (s.is5 < (↑(List.length s.d8):Int))))::(ra 43 [])))))))))))),[]⟩),(some 2,fun p s=>⟨((eL tP s.d8)::(.unk::(.unk::((.sl 0 0 s.ns3 0)::((i p.is4)::((i s.is5)::(ra 11 ((i s.is5)::((eL tP s.d8)::((i (↑(List.length s.d8):Int))::((b (decide (s.is5 < (↑(List.length s.d8):Int))))::(ra 43 [])))))))))))),[⟨136,4,s.eh0,true,false,0⟩]⟩)],oc0⟩
theorem oc1:Va4.Ok:=Lo.ok [Va3.pr] (by kernel_rfl) (.cons nc9 .nil) rfl (.cons (fun a H=>by kernel_rfl) (.cons (fun a H=>by kernel_rfl) .nil)) fun p s=>(.sel (Nat.beq s.ph 1) (.of @M6 (fun F _ _ _ _ _=>by unfold M6;(repeat' apply k9 (f:=F))<;>rfl) (by kernel_rfl)) (.of @M5 (fun F _ _ _ _ _=>by unfold M5;(repeat' apply k9 (f:=F))<;>rfl) (by kernel_rfl)))
structure P6 where
structure w6 where
 ph:Nat
 d8:List Pln
 is4:Int
 ns3:Nat
 eh0:List (List b7)
noncomputable def fc0 (p:P6) (s:w6):St:=⟨((eL tP s.d8)::(.unk::(.unk::((.v (.slice none 0 0))::((i s.is4)::(ra 59 [])))))),[]⟩
noncomputable def fc1 (p:P6) (s:w6):St:=⟨((eL tP s.d8)::(.unk::(.unk::((.sl 0 0 s.ns3 0)::((i s.is4)::(ra 59 [])))))),[⟨136,4,s.eh0,true,false,0⟩]⟩
noncomputable def oc2 (p:P6) (s:w6):St:=(sel (Nat.beq s.ph 1) (fc1 p s) (fc0 p s))
noncomputable def M7 {α:Type} (k:w6→α) (e:Nat→α) (z:α) (p:P6) (s:w6):α:=let t1:=(lp (G6 (⟨s.is4⟩:K5)) (⟨0,(rt tP s.d8),(W (s.is4+1)),0,[]⟩:q8));(sl (decide (s.is4 < (↑(List.length s.d8):Int))) (sl ((cnE tP s.d8)&&true) (sl (Nat.beq t1.1 1) (k ⟨0,t1.2.d8,(W (s.is4+1)),0,[]⟩) (sl (Nat.beq t1.1 2) (k ⟨1,t1.2.d8,(W (s.is4+1)),t1.2.ns3,t1.2.eh0⟩) z)) z) (e 1))
noncomputable def M8 {α:Type} (k:w6→α) (e:Nat→α) (z:α) (p:P6) (s:w6):α:=let t1:=(lp (G6 (⟨s.is4⟩:K5)) (⟨1,(rt tP s.d8),(W (s.is4+1)),s.ns3,s.eh0⟩:q8));(sl (decide (s.is4 < (↑(List.length s.d8):Int))) (sl ((cnE tP s.d8)&&true) (sl (Nat.beq t1.1 1) (k ⟨0,t1.2.d8,(W (s.is4+1)),0,[]⟩) (sl (Nat.beq t1.1 2) (k ⟨1,t1.2.d8,(W (s.is4+1)),t1.2.ns3,t1.2.eh0⟩) z)) z) (e 2))
noncomputable def L4 (p:P6) (s:w6):Stp w6:=(sel (Nat.beq s.ph 1) (M8 .next .exit .fail p s) (M7 .next .exit .fail p s))
noncomputable def Va5:Lo P6 w6:=⟨En Ia6,0,ge3,[1,1,0,1,4,4],[0,3,4],(.s .p (.s (.b (.s .p (.b (.u Va4.ls)))) .p)),[⟨((.s (.c 4 (nL tP)))::((.s (.o .unk))::((.s (.o .unk))::((.s (.o .nil))::((.s (.o (.int .i64)))::(ru2 59 [])))))),[],fun a H=>(⟨⟩,⟨0,(rL tP (slT a 0)),(toI (slT a 4)),0,[]⟩)⟩,⟨((.s (.c 4 (nL tP)))::((.s (.o .unk))::((.s (.o .unk))::((.s (.o (.sl 0 0 (some 0) none)))::((.s (.o (.int .i64)))::(ru2 59 [])))))),[⟨136,4,true,none⟩],fun a H=>(⟨⟩,⟨1,(rL tP (slT a 0)),(toI (slT a 4)),(slN (slT a 3)),(elT H 0)⟩)⟩],L4,[(some 0,fun p s=>⟨((eL tP s.d8)::(.unk::(.unk::((.v (.slice none 0 0))::((i s.is4)::(ra 4 ((i s.is4)::((eL tP s.d8)::((i (↑(List.length s.d8):Int))::((b (decide (s.is4 < (↑(List.length s.d8):Int))))::(ra 51 []))))))))))),[]⟩),(some 0,fun p s=>⟨((eL tP s.d8)::(.unk::(.unk::((.sl 0 0 s.ns3 0)::((i s.is4)::(ra 4 ((i s.is4)::((eL tP s.d8)::((i (↑(List.length s.d8):Int))::((b (decide (s.is4 < (↑(List.length s.d8):Int))))::(ra 51 []))))))))))),[⟨136,4,s.eh0,true,false,0⟩]⟩)],oc2⟩
theorem oc3:Va5.Ok:=Lo.ok [Va4.pr] (by kernel_rfl) (.cons oc1 .nil) rfl (.cons (fun a H=>by kernel_rfl) (.cons (fun a H=>by kernel_rfl) .nil)) fun p s=>(.sel (Nat.beq s.ph 1) (.of @M8 (fun F _ _ _ _ _=>by unfold M8;(repeat' apply k9 (f:=F))<;>rfl) (by kernel_rfl)) (.of @M7 (fun F _ _ _ _ _=>by unfold M7;(repeat' apply k9 (f:=F))<;>rfl) (by kernel_rfl)))
noncomputable def za8 (x:List Pln):Option (b7×List b8):=let t1:=(lp (L4 (⟨⟩:P6)) (⟨0,(rt tP x),0,0,[]⟩:w6));(sl ((cnE tP x)&&true) (sl (Nat.beq t1.1 1) (some ((.v (.slice none 0 0)),[])) (sl (Nat.beq t1.1 2) (some ((.sl 0 0 t1.2.ns3 0),[⟨136,4,t1.2.eh0,true,false,0⟩])) none)) none)
noncomputable def Qa6 (x:List Pln):List Pt:=C9 (one (r1L tX)) (za8 x)
noncomputable def Qa7 (x:List Pln):Bool:=okO (one (r1L tX)) (za8 x)
noncomputable def Rb9:Sum:=Q5 (fa0 tP) (fun x=>.guard (Qa7 x) (.ret ((one (r1L tX)).enc (Qa6 x),[])))
theorem Pc8:g8 prog G 181 Rb9:=ya9 (bd Ef2 zc9) (one (r1L tX)) (o:=za8) fun x=>sa8 (.s .p (.s .p (.s (.s .p (.b (.u Va5.ls))) .p))) [Va5.pr] (by kernel_rfl) (.cons oc3 .nil) (by kernel_rfl)
noncomputable def lb1:List (Nat×Sum):=[]
theorem Wb7:i7 prog G lb1:=trivial
@[reducible] noncomputable def xa3:Sum:=i9 (En lb1) Ze7
theorem Ia7:g8 prog G 191 xa3:=bd Ef9 Wb7
noncomputable def Ac0:List (Nat×Sum):=[]
theorem oc4:i7 prog G Ac0:=trivial
noncomputable def ka3 (x:Int):Option (b7×List b8):=(sl (decide (x < 0)) (some ((i (W (0 - x))),[])) (some ((i x),[])))
noncomputable def M9 (x:Int):Int:=C9 (one r1I) (ka3 x)
noncomputable def E3 (x:Int):Bool:=okO (one r1I) (ka3 x)
noncomputable def eb1:Sum:=Q5 cI (fun x=>.guard (E3 x) (.ret ((one r1I).enc (M9 x),[])))
theorem Bb7:g8 prog G 184 eb1:=ya9 (bd Ef5 oc4) (one r1I) (o:=ka3) fun x=>p5 (by kernel_rfl)
noncomputable def wc8:List (Nat×Sum):=[(184,eb1),(191,xa3)]
theorem wd2:i7 prog G wc8:=⟨Bb7,Ia7,trivial⟩
structure fa1 where
 is6:Int
 c9:Int
 c7:Int
 d7:Int
 Ma5:Int
 Ma6:Int
 Ma7:Int
structure N0 where
 is5:Int
 is7:Int
noncomputable def dd9 (p:fa1) (s:N0):St:=⟨(.unk::((.ptr 0 0 0 0)::((.ptr 1 0 0 0)::(.unk::((.ptr 2 0 0 0)::((i s.is5)::((i p.is6)::((i s.is7)::(ra 38 []))))))))),[⟨0,3,[[(i p.c9),(i p.c7),(i p.d7)]],true,false,0⟩,⟨0,3,[[(i 0),(i 0),(i 0)]],true,false,0⟩,⟨0,3,[[(i p.Ma5),(i p.Ma6),(i p.Ma7)]],true,false,0⟩]⟩
noncomputable def ta1 {α:Type} (k:N0→α) (e:Nat→α) (z:α) (p:fa1) (s:N0):α:=(sl (decide (s.is7 > 0)) (sl (s.is7==0) z (k ⟨s.is7,(Int.tmod s.is5 s.is7)⟩)) (e 1))
noncomputable def aa9 (p:fa1) (s:N0):Stp N0:=ta1 .next .exit .fail p s
noncomputable def xb7:Lo fa1 N0:=⟨En wc8,0,Ze4,[1,1,1,0,1,4,4,1,0,4,1,1,4,4],[1,2,4,5,6,7],.p,[⟨((.s (.o .unk))::((.s (.o (.ptr 0 0 0 0)))::((.s (.o (.ptr 1 0 0 0)))::((.s (.o .unk))::((.s (.o (.ptr 2 0 0 0)))::((.s (.o (.int .i64)))::((.s (.o (.int .i64)))::((.s (.o (.int .i64)))::(ru2 38 []))))))))),[⟨0,3,true,(some [[(.o (.int .i64)),(.o (.int .i64)),(.o (.int .i64))]])⟩,⟨0,3,true,(some [[(.o (.lit .i64 0)),(.o (.lit .i64 0)),(.o (.lit .i64 0))]])⟩,⟨0,3,true,(some [[(.o (.int .i64)),(.o (.int .i64)),(.o (.int .i64))]])⟩],fun a H=>(⟨(toI (slT a 6)),(toI (slT (rwT (elT H 0) 0) 0)),(toI (slT (rwT (elT H 0) 0) 1)),(toI (slT (rwT (elT H 0) 0) 2)),(toI (slT (rwT (elT H 2) 0) 0)),(toI (slT (rwT (elT H 2) 0) 1)),(toI (slT (rwT (elT H 2) 0) 2))⟩,⟨(toI (slT a 5)),(toI (slT a 7))⟩)⟩],aa9,[(some 2,fun p s=>⟨(.unk::((.ptr 0 0 0 0)::((.ptr 1 0 0 0)::(.unk::((.ptr 2 0 0 0)::((i s.is5)::((i p.is6)::((i s.is7)::(ra 15 ((i s.is7)::((b (decide (s.is7 > 0)))::(ra 21 [])))))))))))),[⟨0,3,[[(i p.c9),(i p.c7),(i p.d7)]],true,false,0⟩,⟨0,3,[[(i 0),(i 0),(i 0)]],true,false,0⟩,⟨0,3,[[(i p.Ma5),(i p.Ma6),(i p.Ma7)]],true,false,0⟩]⟩)],dd9⟩
theorem ed0:xb7.Ok:=Lo.ok [] (by kernel_rfl) .nil rfl (.cons (fun a H=>by kernel_rfl) .nil) fun p s=>(.of @ta1 (fun F _ _ _ _ _=>by unfold ta1;(repeat' apply k9 (f:=F))<;>rfl) (by kernel_rfl))
noncomputable def eb2 (x:V3):Option (b7×List b8):=let t1:=(M9 x.x);let t2:=(lp (aa9 (⟨0,x.x,x.y,x.z,x.x,x.y,x.z⟩:fa1)) (⟨0,t1⟩:N0));let t3:=(M9 x.y);let t4:=(lp (aa9 (⟨1,x.x,x.y,x.z,x.x,x.y,x.z⟩:fa1)) (⟨t2.2.is5,t3⟩:N0));let t5:=(M9 x.z);let t6:=(lp (aa9 (⟨2,x.x,x.y,x.z,x.x,x.y,x.z⟩:fa1)) (⟨t4.2.is5,t5⟩:N0));(sl (x.x==(-9223372036854775808)) (some ((.tup [(.agg [(i 0),(i 0),(i 0)]),(i 0)]),[])) (sl (E3 x.x) (sl (Nat.beq t2.1 1) (sl (x.y==(-9223372036854775808)) (some ((.tup [(.agg [(i 0),(i 0),(i 0)]),(i 0)]),[])) (sl (E3 x.y) (sl (Nat.beq t4.1 1) (sl (x.z==(-9223372036854775808)) (some ((.tup [(.agg [(i 0),(i 0),(i 0)]),(i 0)]),[])) (sl (E3 x.z) (sl (Nat.beq t6.1 1) (sl (t6.2.is5==0) (some ((.tup [(.agg [(i 0),(i 0),(i 0)]),(i 0)]),[])) (sl (t6.2.is5==0) none (sl (t6.2.is5==0) none (sl (t6.2.is5==0) none (some ((.tup [(.agg [(i (W (Int.tdiv x.x t6.2.is5))),(i (W (Int.tdiv x.y t6.2.is5))),(i (W (Int.tdiv x.z t6.2.is5)))]),(i t6.2.is5)]),[])))))) none) none)) none) none)) none) none))
noncomputable def Ea9 (x:V3):V3×Int:=C9 (two r1V r1I) (eb2 x)
noncomputable def eb3 (x:V3):Bool:=okO (two r1V r1I) (eb2 x)
noncomputable def Wb8:Sum:=Q5 (B0 tV) (fun x=>.guard (eb3 x) (.ret ((two r1V r1I).enc (Ea9 x),[])))
theorem wc9:g8 prog G 163 Wb8:=ya9 (bd Df6 wd2) (two r1V r1I) (o:=eb2) fun x=>sa8 (.s .p (.s .p (.s .p (.s (.s .p (.b (.l (.s .p (.s (.b (.s .p (.s .p (.b (.u xb7.ls))))) .p))))) .p)))) [xb7.pr] (by kernel_rfl) (.cons ed0 .nil) (by kernel_rfl)
noncomputable def wd3:List (Nat×Sum):=[(163,Wb8),(191,xa3)]
theorem ed1:i7 prog G wd3:=⟨wc9,Ia7,trivial⟩
noncomputable def Sa7 (x:Pln):Option (b7×List b8):=let t1:=(Ea9 x.n);(sl (decide (x.n.x < (-4608))) (some ((b false),[])) (sl (decide (x.n.x > 4608)) (some ((b false),[])) (sl (decide (x.n.y < (-4608))) (some ((b false),[])) (sl (decide (x.n.y > 4608)) (some ((b false),[])) (sl (decide (x.n.z < (-4608))) (some ((b false),[])) (sl (decide (x.n.z > 4608)) (some ((b false),[])) (sl (eb3 x.n) (sl (t1.2==1) (sl (decide (x.b≥(-2097152))) (some ((b (decide (x.b≤2097152))),[])) (some ((b false),[]))) (some ((b false),[]))) none)))))))
noncomputable def ta2 (x:Pln):Bool:=C9 (one r1B) (Sa7 x)
noncomputable def ta3 (x:Pln):Bool:=okO (one r1B) (Sa7 x)
noncomputable def lb2:Sum:=Q5 (B0 tP) (fun x=>.guard (ta3 x) (.ret ((one r1B).enc (ta2 x),[])))
theorem xb8:g8 prog G 156 lb2:=ya9 (bd Df3 ed1) (one r1B) (o:=Sa7) fun x=>p5 (by kernel_rfl)
noncomputable def fc2:List (Nat×Sum):=[(156,lb2)]
theorem ed2:i7 prog G fc2:=⟨xb8,trivial⟩
structure za9 where
 d8:List Pln
structure T4 where
 is3:Int
noncomputable def Pc9 (p:za9) (s:T4):St:=⟨((eL tP p.d8)::(.unk::(.unk::((i s.is3)::(ra 15 []))))),[]⟩
noncomputable def na3 {α:Type} (k:T4→α) (e:Nat→α) (z:α) (p:za9) (s:T4):α:=let t1:=(ta2 (gL tP p.d8 s.is3.toNat));(sl (decide (s.is3 < (↑(List.length p.d8):Int))) (sl (inB s.is3 (List.length p.d8)) (sl (ta3 (gL tP p.d8 s.is3.toNat)) (sl (!t1) (e 1) (k ⟨(W (s.is3+1))⟩)) z) z) (e 2))
noncomputable def ta4 (p:za9) (s:T4):Stp T4:=na3 .next .exit .fail p s
noncomputable def nb8:Lo za9 T4:=⟨En fc2,0,Ye6,[1,1,0,1,4,4],[0,3],.p,[⟨((.s (.c 4 (nL tP)))::((.s (.o .unk))::((.s (.o .unk))::((.s (.o (.int .i64)))::(ru2 15 []))))),[],fun a H=>(⟨(rL tP (slT a 0))⟩,⟨(toI (slT a 3))⟩)⟩],ta4,[(none,fun p s=>⟨[(i 12)],[]⟩),(some 0,fun p s=>⟨((eL tP p.d8)::(.unk::(.unk::((i s.is3)::(ra 3 ((i s.is3)::((eL tP p.d8)::((i (↑(List.length p.d8):Int))::((b (decide (s.is3 < (↑(List.length p.d8):Int))))::(ra 8 [])))))))))),[]⟩)],Pc9⟩
theorem Qc0:nb8.Ok:=Lo.ok [] (by kernel_rfl) .nil rfl (.cons (fun a H=>by kernel_rfl) .nil) fun p s=>(.of @na3 (fun F _ _ _ _ _=>by unfold na3;(repeat' apply k9 (f:=F))<;>rfl) (by kernel_rfl))
noncomputable def Sa8 (x:List Pln):Option (b7×List b8):=let t1:=(lp (ta4 (⟨(rt tP x)⟩:za9)) (⟨0⟩:T4));(sl (decide ((↑(List.length x):Int) > 48)) (some ((i 2),[])) (sl ((cnE tP x)&&true) (sl (Nat.beq t1.1 1) (some ((i 12),[])) (sl (Nat.beq t1.1 2) (some ((i 0),[])) none)) none))
noncomputable def lb3 (x:List Pln):Int:=C9 (one r1I) (Sa8 x)
noncomputable def lb4 (x:List Pln):Bool:=okO (one r1I) (Sa8 x)
noncomputable def xc0:Sum:=Q5 (fa0 tP) (fun x=>.guard (lb4 x) (.ret ((one r1I).enc (lb3 x),[])))
theorem wd4:g8 prog G 100 xc0:=ya9 (bd Af4 ed2) (one r1I) (o:=Sa8) fun x=>sa8 (.s .p (.s .p (.s (.s .p (.b (.u nb8.ls))) .p))) [nb8.pr] (by kernel_rfl) (.cons Qc0 .nil) (by kernel_rfl)
noncomputable def Zd0:List (Nat×Sum):=[]
theorem Md0:i7 prog G Zd0:=trivial
noncomputable def Nb9 (x:V3) (y:V3):Option (b7×List b8):=(some ((.sl 0 0 6 0),[⟨73,4,[[(i 1),(i 0),(i 0),(i y.x)],[(i (-1)),(i 0),(i 0),(i (W (0 - x.x)))],[(i 0),(i 1),(i 0),(i y.y)],[(i 0),(i (-1)),(i 0),(i (W (0 - x.y)))],[(i 0),(i 0),(i 1),(i y.z)],[(i 0),(i 0),(i (-1)),(i (W (0 - x.z)))]],true,false,0⟩]))
noncomputable def sb2 (x:V3) (y:V3):List Pln:=C9 (one (r1L tP)) (Nb9 x y)
noncomputable def bb2 (x:V3) (y:V3):Bool:=okO (one (r1L tP)) (Nb9 x y)
noncomputable def oc5:Sum:=Z9 (B0 tV) (B0 tV) (fun x y=>.guard (bb2 x y) (.ret ((one (r1L tP)).enc (sb2 x y),[])))
theorem Qc1:g8 prog G 63 oc5:=Ia3 (bd b63 Md0) (one (r1L tP)) (o:=Nb9) fun x y=>p5 (by kernel_rfl)
noncomputable def Zd1:List (Nat×Sum):=[(63,oc5)]
theorem Md1:i7 prog G Zd1:=⟨Qc1,trivial⟩
noncomputable def sb3 (x:List Pln):Option (b7×List b8):=let t1:=(sb2 (⟨(-24),(-24),(-24)⟩:V3) (⟨24,24,24⟩:V3));(sl (Nat.beq (len (m9 (fun k=>(tP).row (gL tP x k)) (List.range (List.length x)))) 0) (sl (bb2 (⟨(-24),(-24),(-24)⟩:V3) (⟨24,24,24⟩:V3)) (sl (Nat.beq (len (m9 (fun k=>(tP).row (gL tP t1 k)) (List.range (List.length t1)))) 0) (some ((.sl 0 0 0 0),[⟨73,4,[],true,false,0⟩])) (sl (Nat.beq 0 0&&Nat.ble ((0+(len (m9 (fun k=>(tP).row (gL tP t1 k)) (List.range (List.length t1)))))*32) room) (some ((.sl 0 0 (0+(len (m9 (fun k=>(tP).row (gL tP t1 k)) (List.range (List.length t1))))) 0),[⟨73,4,(app [] (m9 (fun k=>(tP).row (gL tP t1 k)) (List.range (List.length t1)))),true,false,0⟩])) none)) none) (sl (Nat.beq 0 0&&Nat.ble ((0+(len (m9 (fun k=>(tP).row (gL tP x k)) (List.range (List.length x)))))*32) room) (sl (bb2 (⟨(-24),(-24),(-24)⟩:V3) (⟨24,24,24⟩:V3)) (sl (Nat.beq (len (m9 (fun k=>(tP).row (gL tP t1 k)) (List.range (List.length t1)))) 0) (some ((.sl 0 0 (0+(len (m9 (fun k=>(tP).row (gL tP x k)) (List.range (List.length x))))) 0),[⟨73,4,(app [] (m9 (fun k=>(tP).row (gL tP x k)) (List.range (List.length x)))),true,false,0⟩])) (sl (Nat.beq (0+(len (m9 (fun k=>(tP).row (gL tP x k)) (List.range (List.length x))))) (len (app [] (m9 (fun k=>(tP).row (gL tP x k)) (List.range (List.length x)))))&&Nat.ble (((0+(len (m9 (fun k=>(tP).row (gL tP x k)) (List.range (List.length x)))))+(len (m9 (fun k=>(tP).row (gL tP t1 k)) (List.range (List.length t1)))))*32) room) (some ((.sl 0 0 ((0+(len (m9 (fun k=>(tP).row (gL tP x k)) (List.range (List.length x)))))+(len (m9 (fun k=>(tP).row (gL tP t1 k)) (List.range (List.length t1))))) 0),[⟨73,4,(app (app [] (m9 (fun k=>(tP).row (gL tP x k)) (List.range (List.length x)))) (m9 (fun k=>(tP).row (gL tP t1 k)) (List.range (List.length t1)))),true,false,0⟩])) none)) none) none))
noncomputable def Ob0 (x:List Pln):List Pln:=C9 (one (r1L tP)) (sb3 x)
noncomputable def Ob1 (x:List Pln):Bool:=okO (one (r1L tP)) (sb3 x)
noncomputable def nd9:Sum:=Q5 (fa0 tP) (fun x=>.guard (Ob1 x) (.ret ((one (r1L tP)).enc (Ob0 x),[])))
theorem Zd2:g8 prog G 124 nd9:=ya9 (bd Bf2 Md1) (one (r1L tP)) (o:=sb3) fun x=>p5 (by kernel_rfl)
noncomputable def Ib0:List (Nat×Sum):=[(181,Rb9),(158,Wb4)]
theorem wd5:i7 prog G Ib0:=⟨Pc8,wc6,trivial⟩
structure Ia8 where
 d8:List Pln
 Ya1:List Pt
 is4:Int
structure fa2 where
 bs5:Bool
 is6:Int
noncomputable def ed3 (p:Ia8) (s:fa2):St:=⟨((eL tP p.d8)::(.unk::(.unk::((eL tX p.Ya1)::((i p.is4)::((b s.bs5)::((i s.is6)::(ra 29 [])))))))),[]⟩
noncomputable def ta5 {α:Type} (k:fa2→α) (e:Nat→α) (z:α) (p:Ia8) (s:fa2):α:=let t1:=(db5 (gL tP p.d8 p.is4.toNat) (gL tX p.Ya1 s.is6.toNat));(sl (decide (s.is6 < (↑(List.length p.Ya1):Int))) (sl s.bs5 (k ⟨true,(W (s.is6+1))⟩) (sl (inB p.is4 (List.length p.d8)) (sl (inB s.is6 (List.length p.Ya1)) (k ⟨(decide (t1 > 0)),(W (s.is6+1))⟩) z) z)) (e 1))
noncomputable def pa6 (p:Ia8) (s:fa2):Stp fa2:=ta5 .next .exit .fail p s
noncomputable def xb9:Lo Ia8 fa2:=⟨En Ib0,0,ze7,[1,1,0,1,4,4,1,0,4,1,0,1,4,4],[0,3,4,5,6],.p,[⟨((.s (.c 4 (nL tP)))::((.s (.o .unk))::((.s (.o .unk))::((.s (.c 4 (nL tX)))::((.s (.o (.int .i64)))::((.s (.o .bool))::((.s (.o (.int .i64)))::(ru2 29 [])))))))),[],fun a H=>(⟨(rL tP (slT a 0)),(rL tX (slT a 3)),(toI (slT a 4))⟩,⟨(toB (slT a 5)),(toI (slT a 6))⟩)⟩],pa6,[(some 2,fun p s=>⟨((eL tP p.d8)::(.unk::(.unk::((eL tX p.Ya1)::((i p.is4)::((b s.bs5)::((i s.is6)::(ra 8 ((i s.is6)::((eL tX p.Ya1)::((i (↑(List.length p.Ya1):Int))::((b (decide (s.is6 < (↑(List.length p.Ya1):Int))))::(ra 17 []))))))))))))),[]⟩)],ed3⟩
theorem ed4:xb9.Ok:=Lo.ok [] (by kernel_rfl) .nil rfl (.cons (fun a H=>by kernel_rfl) .nil) fun p s=>(.of @ta5 (fun F _ _ _ _ _=>by unfold ta5;(repeat' apply k9 (f:=F))<;>rfl) (by kernel_rfl))
structure Ia9 where
structure aa2 where
 d8:List Pln
 Ya1:List Pt
 is4:Int
noncomputable def ed5 (p:Ia9) (s:aa2):St:=⟨((eL tP s.d8)::(.unk::(.unk::((eL tX s.Ya1)::((i s.is4)::(ra 31 [])))))),[]⟩
noncomputable def ta6 {α:Type} (k:aa2→α) (e:Nat→α) (z:α) (p:Ia9) (s:aa2):α:=let t1:=(lp (pa6 (⟨(rt tP s.d8),(rt tX s.Ya1),s.is4⟩:Ia8)) (⟨false,0⟩:fa2));(sl (decide (s.is4 < (↑(List.length s.d8):Int))) (sl ((cnE tP s.d8)&&((cnE tX s.Ya1)&&true)) (sl (Nat.beq t1.1 1) (sl (!t1.2.bs5) (e 1) (k ⟨(rt tP s.d8),(rt tX s.Ya1),(W (s.is4+1))⟩)) z) z) (e 2))
noncomputable def Aa0 (p:Ia9) (s:aa2):Stp aa2:=ta6 .next .exit .fail p s
noncomputable def yb0:Lo Ia9 aa2:=⟨En Ib0,0,ze7,[1,1,0,1,4,4],[0,3,4],(.s .p (.s (.b (.s .p (.s (.s .p (.b (.u xb9.ls))) .p))) .p)),[⟨((.s (.c 4 (nL tP)))::((.s (.o .unk))::((.s (.o .unk))::((.s (.c 4 (nL tX)))::((.s (.o (.int .i64)))::(ru2 31 [])))))),[],fun a H=>(⟨⟩,⟨(rL tP (slT a 0)),(rL tX (slT a 3)),(toI (slT a 4))⟩)⟩],Aa0,[(none,fun p s=>⟨[(b false)],[]⟩),(some 0,fun p s=>⟨((eL tP s.d8)::(.unk::(.unk::((eL tX s.Ya1)::((i s.is4)::(ra 4 ((i s.is4)::((eL tP s.d8)::((i (↑(List.length s.d8):Int))::((b (decide (s.is4 < (↑(List.length s.d8):Int))))::(ra 23 []))))))))))),[]⟩)],ed5⟩
theorem ed6:yb0.Ok:=Lo.ok [xb9.pr] (by kernel_rfl) (.cons ed4 .nil) rfl (.cons (fun a H=>by kernel_rfl) .nil) fun p s=>(.of @ta6 (fun F _ _ _ _ _=>by unfold ta6;(repeat' apply k9 (f:=F))<;>rfl) (by kernel_rfl))
noncomputable def eb4 (x:List Pln):Option (b7×List b8):=let t1:=(Qa6 (rt tP x));let t2:=(lp (Aa0 (⟨⟩:Ia9)) (⟨(rt tP x),(rt tX t1),0⟩:aa2));(sl (okE tP x) (sl (Qa7 (rt tP x)) (sl ((cnE tP x)&&((cnE tX t1)&&true)) (sl (Nat.beq t2.1 1) (some ((b false),[])) (sl (Nat.beq t2.1 2) (some ((b true),[])) none)) none) none) none)
noncomputable def yb1 (x:List Pln):Bool:=C9 (one r1B) (eb4 x)
noncomputable def yb2 (x:List Pln):Bool:=okO (one r1B) (eb4 x)
noncomputable def Qc2:Sum:=Q5 (fa0 tP) (fun x=>.guard (yb2 x) (.ret ((one r1B).enc (yb1 x),[])))
theorem Md2:g8 prog G 123 Qc2:=ya9 (bd Bf1 wd5) (one r1B) (o:=eb4) fun x=>sa8 (.s .p (.s .p (.s (.s .p (.b (.u yb0.ls))) .p))) [yb0.pr] (by kernel_rfl) (.cons ed6 .nil) (by kernel_rfl)
noncomputable def Md3:List (Nat×Sum):=[(100,xc0),(124,nd9),(123,Qc2)]
theorem wd6:i7 prog G Md3:=⟨wd4,Zd2,Md2,trivial⟩
noncomputable def eb5 (x:List Pln):Option (b7×List b8):=let t1:=(lb3 (rt tP x));let t2:=(Ob0 (rt tP x));let t3:=(yb1 (rt tP t2));(sl (okE tP x) (sl (lb4 (rt tP x)) (sl (t1==0) (sl (okE tP x) (sl (Ob1 (rt tP x)) (sl (okE tP t2) (sl (yb2 (rt tP t2)) (some ((b t3),[])) none) none) none) none) (some ((b false),[]))) none) none)
noncomputable def Wb9 (x:List Pln):Bool:=C9 (one r1B) (eb5 x)
noncomputable def Oa5 (x:List Pln):Bool:=okO (one r1B) (eb5 x)
noncomputable def Qc3:Sum:=Q5 (fa0 tP) (fun x=>.guard (Oa5 x) (.ret ((one r1B).enc (Wb9 x),[])))
theorem Md4:g8 prog G 70 Qc3:=ya9 (bd b70 wd6) (one r1B) (o:=eb5) fun x=>p5 (by kernel_rfl)
noncomputable def Zd3:List (Nat×Sum):=[]
theorem Md5:i7 prog G Zd3:=trivial
noncomputable def sb4 (x:Int) (y:Int):Option (b7×List b8):=(sl (decide (y < 1)) (some ((i 0),[])) (sl (y==0) none (sl (y==0) none (some ((i (Int.tmod (W ((Int.tmod x y)+y)) y)),[])))))
noncomputable def pa7 (x:Int) (y:Int):Int:=C9 (one r1I) (sb4 x y)
noncomputable def ka4 (x:Int) (y:Int):Bool:=okO (one r1I) (sb4 x y)
noncomputable def sb5:Sum:=Z9 cI cI (fun x y=>.guard (ka4 x y) (.ret ((one r1I).enc (pa7 x y),[])))
theorem yb3:g8 prog G 27 sb5:=Ia3 (bd b27 Md5) (one r1I) (o:=sb4) fun x y=>p5 (by kernel_rfl)
end Go.Ev.Ce
end
section
namespace Go.Ev.Ce
open Go Go.Ev Go.Ev.L Go.Proofs
set_option maxRecDepth 100000
noncomputable def wd7:List (Nat×Sum):=[]
theorem ed7:i7 prog G wd7:=trivial
noncomputable def y8 (x:V3) (y:V3):Int:=(W ((W ((W (x.x*y.x))+(W (x.y*y.y))))+(W (x.z*y.z))))
noncomputable def Sa9:Sum:=Z9 (B0 tV) (B0 tV) (fun x y=>.ret ((one r1I).enc (y8 x y),[]))
theorem Ya8:g8 prog G 83 Sa9:=ra7 (bd b83 ed7) fun x y=>p5 (by kernel_rfl)
noncomputable def wd8:List (Nat×Sum):=[]
theorem ed8:i7 prog G wd8:=trivial
noncomputable def C6 (x:V3) (y:V3):V3:=(⟨(W (x.x+y.x)),(W (x.y+y.y)),(W (x.z+y.z))⟩:V3)
noncomputable def xc1:Sum:=Z9 (B0 tV) (B0 tV) (fun x y=>.ret ((one r1V).enc (C6 x y),[]))
theorem wd9:g8 prog G 34 xc1:=ra7 (bd b34 ed8) fun x y=>p5 (by kernel_rfl)
noncomputable def Qc4:List (Nat×Sum):=[]
theorem Ac1:i7 prog G Qc4:=trivial
noncomputable def ba0 (x:V3) (y:V3):V3:=(⟨(W ((W (x.y*y.z)) - (W (x.z*y.y)))),(W ((W (x.z*y.x)) - (W (x.x*y.z)))),(W ((W (x.x*y.y)) - (W (x.y*y.x))))⟩:V3)
noncomputable def nb9:Sum:=Z9 (B0 tV) (B0 tV) (fun x y=>.ret ((one r1V).enc (ba0 x y),[]))
theorem Ib1:g8 prog G 142 nb9:=ra7 (bd Cf8 Ac1) fun x y=>p5 (by kernel_rfl)
structure Pe0 where
 Ma8:List Int
 is7:Int
 is8:Int
structure Pe1 where
 is3:Int
 is5:Int
structure Pe2 where
 is7:Int
structure Pe3 where
 is3:Int
 Ma8:List Int
 is8:Int
structure se9 where
 O8:Int
 O9:Int
 P0:Int
 ad7:Int
 c9:Int
 c7:Int
 d7:Int
 g7:Int
structure te0 where
 bs0:Bool
structure ad8 where
 d8:List Pln
 c9:Int
 c7:Int
 d7:Int
 g7:Int
structure Hc6 where
 d8:List Pln
 is7:Int
 c9:Int
 c7:Int
 d7:Int
 g7:Int
structure Hc7 where
 is8:Int
structure ad9 where
 alt:Nat
 is0:Int
structure Ac2 where
 d8:List Pln
 c9:Int
 c7:Int
 d7:Int
 g7:Int
structure Ac3 where
 alt:Nat
 bs0:Bool
structure sb6 where
 is3:Int
 cf5:List Pln
 r8:Int
 Td8:Int
 wf2:Nat
 wf3:Nat→List b7
 mf5:Int
 Hf4:Int
 Hf5:Nat
 Hf6:Nat→List b7
 Hf7:Int
 p9:List Pln
 u7:Int
 u9:Int
 v7:Int
 Ma9:Int
 Ma5:Int
 Ma6:Int
 Ma7:Int
 Xe7:Int
 se7:List Pln
structure od0 where
 ph:Nat
 If3:Int
 wf4:Nat
 eh6:List (List b7)
 eh7:List (List b7)
structure sb7 where
 is3:Int
 r8:Int
 Td8:Int
 wf2:Nat
 wf3:Nat→List b7
 mf5:Int
 u7:Int
 u9:Int
 v7:Int
 Ma9:Int
structure od1 where
 ph:Nat
 cf5:List Pln
 Hf4:Int
 p9:List Pln
 X7:List Pln
 v8:Nat
 eh5:List (List b7)
 eh6:List (List b7)
structure od2 where
 r8:Int
structure od3 where
 ph:Nat
 cf5:List Pln
 Td8:Int
 p9:List Pln
 q7:List Pln
 wf5:Nat
 eh4:List (List b7)
 eh5:List (List b7)
end Go.Ev.Ce
end
section
namespace Go.Ev.Ce
open Go Go.Ev Go.Ev.L Go.Proofs
set_option maxRecDepth 100000
noncomputable def Bb8:List (Nat×Sum):=[]
theorem oc6:i7 prog G Bb8:=trivial
structure ka5 where
 is0:Int
 Td9:List Int
 is8:Int
structure G7 where
 is9:Int
noncomputable def fc3 (p:ka5) (s:G7):St:=⟨((i p.is0)::(ra 6 ((eL tI p.Td9)::((i p.is8)::((i s.is9)::(ra 13 [])))))),[]⟩
noncomputable def ca6 {α:Type} (k:G7→α) (e:Nat→α) (z:α) (p:ka5) (s:G7):α:=(sl (decide (s.is9 < p.is8)) (sl (inB s.is9 (List.length p.Td9)) (sl (decide ((gL tI p.Td9 s.is9.toNat) < (W (0 - p.is0)))) (e 1) (sl (decide ((gL tI p.Td9 s.is9.toNat) > p.is0)) (e 1) (k ⟨(W (s.is9+1))⟩))) z) (e 2))
noncomputable def fa3 (p:ka5) (s:G7):Stp G7:=ca6 .next .exit .fail p s
noncomputable def Oa6:Lo ka5 G7:=⟨En Bb8,0,Ze2,[1,0,1,4,4],[0,7,8,9],.p,[⟨((.s (.o (.int .i64)))::(ru2 6 ((.s (.c 1 (nL tI)))::((.s (.o (.int .i64)))::((.s (.o (.int .i64)))::(ru2 13 [])))))),[],fun a H=>(⟨(toI (slT a 0)),(rL tI (slT a 7)),(toI (slT a 8))⟩,⟨(toI (slT a 9))⟩)⟩],fa3,[(none,fun p s=>⟨[(b false)],[]⟩),(some 0,fun p s=>⟨((i p.is0)::(ra 6 ((eL tI p.Td9)::((i p.is8)::((i s.is9)::((b (decide (s.is9 < p.is8)))::(ra 12 []))))))),[]⟩)],fc3⟩
theorem fc4:Oa6.Ok:=Lo.ok [] (by kernel_rfl) .nil rfl (.cons (fun a H=>by kernel_rfl) .nil) fun p s=>(.of @ca6 (fun F _ _ _ _ _=>by unfold ca6;(repeat' apply k9 (f:=F))<;>rfl) (by kernel_rfl))
noncomputable def ta7 (x:Int) (y:List Int):Option (b7×List b8):=let t1:=(lp (fa3 (⟨x,(rt tI y),(↑(List.length y):Int)⟩:ka5)) (⟨0⟩:G7));(sl ((cnE tI y)&&true) (sl (Nat.beq t1.1 1) (some ((b false),[])) (sl (Nat.beq t1.1 2) (some ((b true),[])) none)) none)
noncomputable def J4 (x:Int) (y:List Int):Bool:=C9 (one r1B) (ta7 x y)
noncomputable def J5 (x:Int) (y:List Int):Bool:=okO (one r1B) (ta7 x y)
noncomputable def Ja0:Sum:=Z9 cI (fa0 tI) (fun x y=>.guard (J5 x y) (.ret ((one r1B).enc (J4 x y),[])))
theorem Va6:g8 prog G 138 Ja0:=Ia3 (bd Cf4 oc6) (one r1B) (o:=ta7) fun x y=>sa8 (.s .p (.s (.s .p (.b (.u Oa6.ls))) .p)) [Oa6.pr] (by kernel_rfl) (.cons fc4 .nil) (by kernel_rfl)
noncomputable def fc5:List (Nat×Sum):=[]
theorem Xb0:i7 prog G fc5:=trivial
noncomputable def R6 (x:Int):Int:=(if (W (0 - x)) > x then (W (0 - x)) else x)
noncomputable def Oa7:Sum:=Q5 cI (fun x=>.ret ((one r1I).enc (R6 x),[]))
theorem lb5:g8 prog G 183 Oa7:=kb8 (bd Ef4 Xb0) fun x=>p5 (by kernel_rfl)
noncomputable def Oa8:List (Nat×Sum):=[(183,Oa7)]
theorem fc6:i7 prog G Oa8:=⟨lb5,trivial⟩
structure V6 where
 Ma8:List Int
 is7:Int
 is8:Int
structure I8 where
 is3:Int
 is5:Int
noncomputable def Xb1 (p:V6) (s:I8):St:=⟨(ra 3 ((i s.is3)::(.unk::((i s.is5)::((eL tI p.Ma8)::((i p.is7)::((i p.is8)::(ra 15 [])))))))),[]⟩
noncomputable def Z5 {α:Type} (k:I8→α) (e:Nat→α) (z:α) (p:V6) (s:I8):α:=(sl (decide (s.is5 > 0)) (sl (s.is5==0) z (k ⟨s.is5,(Int.tmod s.is3 s.is5)⟩)) (e 1))
noncomputable def R7 (p:V6) (s:I8):Stp I8:=Z5 .next .exit .fail p s
noncomputable def Ja1:Lo V6 I8:=⟨En Oa8,0,ze9,[1,1,0,1,4,4,1,1,0,4,1,1,1,4,4],[3,5,6,7,8],.p,[⟨(ru2 3 ((.s (.o (.int .i64)))::((.s (.o .unk))::((.s (.o (.int .i64)))::((.s (.c 1 (nL tI)))::((.s (.o (.int .i64)))::((.s (.o (.int .i64)))::(ru2 15 [])))))))),[],fun a H=>(⟨(rL tI (slT a 6)),(toI (slT a 7)),(toI (slT a 8))⟩,⟨(toI (slT a 3)),(toI (slT a 5))⟩)⟩],R7,[(some 2,fun p s=>⟨(ra 3 ((i s.is3)::(.unk::((i s.is5)::((eL tI p.Ma8)::((i p.is7)::((i p.is8)::(ra 7 ((i s.is5)::((b (decide (s.is5 > 0)))::(ra 6 []))))))))))),[]⟩)],Xb1⟩
theorem Xb2:Ja1.Ok:=Lo.ok [] (by kernel_rfl) .nil rfl (.cons (fun a H=>by kernel_rfl) .nil) fun p s=>(.of @Z5 (fun F _ _ _ _ _=>by unfold Z5;(repeat' apply k9 (f:=F))<;>rfl) (by kernel_rfl))
structure fa4 where
 is7:Int
structure D0 where
 is3:Int
 Ma8:List Int
 is8:Int
noncomputable def Xb3 (p:fa4) (s:D0):St:=⟨(ra 3 ((i s.is3)::(.unk::(.unk::((eL tI s.Ma8)::((i p.is7)::((i s.is8)::(ra 15 [])))))))),[]⟩
noncomputable def Z6 {α:Type} (k:D0→α) (e:Nat→α) (z:α) (p:fa4) (s:D0):α:=let t1:=(R6 (gL tI s.Ma8 s.is8.toNat));let t2:=(lp (R7 (⟨(rt tI s.Ma8),p.is7,s.is8⟩:V6)) (⟨s.is3,t1⟩:I8));(sl (decide (s.is8 < p.is7)) (sl (inB s.is8 (List.length s.Ma8)) (sl ((gL tI s.Ma8 s.is8.toNat)==(-9223372036854775808)) (e 1) (sl ((cnE tI s.Ma8)&&true) (sl (Nat.beq t2.1 1) (k ⟨t2.2.is3,(rt tI s.Ma8),(W (s.is8+1))⟩) z) z)) z) (e 2))
noncomputable def ca7 (p:fa4) (s:D0):Stp D0:=Z6 .next .exit .fail p s
noncomputable def Ja2:Lo fa4 D0:=⟨En Oa8,0,ze9,[1,1,0,1,4,4],[3,6,7,8],(.s .p (.s .p (.s (.b (.s .p (.s .p (.s .p (.b (.u Ja1.ls)))))) .p))),[⟨(ru2 3 ((.s (.o (.int .i64)))::((.s (.o .unk))::((.s (.o .unk))::((.s (.c 1 (nL tI)))::((.s (.o (.int .i64)))::((.s (.o (.int .i64)))::(ru2 15 [])))))))),[],fun a H=>(⟨(toI (slT a 7))⟩,⟨(toI (slT a 3)),(rL tI (slT a 6)),(toI (slT a 8))⟩)⟩],ca7,[(none,fun p s=>⟨[(i 0)],[]⟩),(some 0,fun p s=>⟨(ra 3 ((i s.is3)::(.unk::(.unk::((eL tI s.Ma8)::((i p.is7)::((i s.is8)::((b (decide (s.is8 < p.is7)))::(ra 14 []))))))))),[]⟩)],Xb3⟩
theorem Xb4:Ja2.Ok:=Lo.ok [Ja1.pr] (by kernel_rfl) (.cons Xb2 .nil) rfl (.cons (fun a H=>by kernel_rfl) .nil) fun p s=>(.of @Z6 (fun F _ _ _ _ _=>by unfold Z6;(repeat' apply k9 (f:=F))<;>rfl) (by kernel_rfl))
noncomputable def na4 (x:List Int):Option (b7×List b8):=let t1:=(lp (ca7 (⟨(↑(List.length x):Int)⟩:fa4)) (⟨0,(rt tI x),0⟩:D0));(sl ((cnE tI x)&&true) (sl (Nat.beq t1.1 1) (some ((i 0),[])) (sl (Nat.beq t1.1 2) (some ((i t1.2.is3),[])) none)) none)
noncomputable def Y2 (x:List Int):Int:=C9 (one r1I) (na4 x)
noncomputable def Y3 (x:List Int):Bool:=okO (one r1I) (na4 x)
noncomputable def Va7:Sum:=Q5 (fa0 tI) (fun x=>.guard (Y3 x) (.ret ((one r1I).enc (Y2 x),[])))
theorem sb8:g8 prog G 186 Va7:=ya9 (bd Ef6 fc6) (one r1I) (o:=na4) fun x=>sa8 (.s .p (.s .p (.s (.s .p (.b (.u Ja2.ls))) .p))) [Ja2.pr] (by kernel_rfl) (.cons Xb4 .nil) (by kernel_rfl)
noncomputable def Qc5:List (Nat×Sum):=[(138,Ja0),(186,Va7)]
theorem Ac4:i7 prog G Qc5:=⟨Va6,sb8,trivial⟩
noncomputable def Aa1 (x:Pln):Option (b7×List b8):=let t1:=(J4 4608 [x.n.x,x.n.y,x.n.z]);let t2:=(Y2 [x.n.x,x.n.y,x.n.z]);let t3:=(J4 2097152 [x.b]);(sl (J5 4608 [x.n.x,x.n.y,x.n.z]) (sl t1 (sl (Y3 [x.n.x,x.n.y,x.n.z]) (sl (t2==1) (sl (J5 2097152 [x.b]) (some ((b t3),[])) none) (some ((b false),[]))) none) (some ((b false),[]))) none)
noncomputable def Aa2 (x:Pln):Bool:=C9 (one r1B) (Aa1 x)
noncomputable def Aa3 (x:Pln):Bool:=okO (one r1B) (Aa1 x)
noncomputable def ob0:Sum:=Q5 (B0 tP) (fun x=>.guard (Aa3 x) (.ret ((one r1B).enc (Aa2 x),[])))
theorem Ib2:g8 prog G 140 ob0:=ya9 (bd Cf6 Ac4) (one r1B) (o:=Aa1) fun x=>p5 (by kernel_rfl)
structure bd0 where
 d8:List Pln
structure Hc8 where
 d8:List Pln
 is7:Int
structure Hc9 where
 is8:Int
structure bd1 where
 alt:Nat
 is0:Int
structure Ac5 where
 d8:List Pln
structure Ac6 where
 alt:Nat
 bs0:Bool
end Go.Ev.Ce
end
namespace Go.Proofs
open Go.Shelf
set_option maxRecDepth 100000 in
def Ce.growP_ren:Go.Shelf.Ren:=⟨fun | 4=>193 | n=>n,fun | 22=>24 | 25=>73 | 3=>3 | 4=>4 | 9=>9 | 20=>20 | 0=>0 | n=>n,fun | n=>n⟩
end Go.Proofs
namespace Go.Ev.Ce
open Go Go.Ev Go.Proofs
noncomputable def Ff8:List b7:=[i 0,i 0,i 0,i 0]
theorem t25:Ce.growP_ren.t 25=73:=by kernel_rfl
theorem f4:Ce.growP_ren.f 4=193:=by kernel_rfl
end Go.Ev.Ce
section
namespace Go.Ev.Ce
open Go Go.Ev Go.Ev.L Go.Proofs
set_option maxRecDepth 100000
structure od4 where
 de0:List (List Pln)
 Hf8:List (List Pln)
 r8:Int
structure od5 where
 is3:Int
 Td8:Int
structure od6 where
 wf6:List (List Pln)
 If4:Int
structure od7 where
 ph:Nat
 If5:Int
 ns6:Nat
 eh0:List (List b7)
structure Ed1 where
 alt:Nat
 ns0:Nat
 eh0:List (List b7)
structure bd2 where
 de0:List (List Pln)
structure Ic0 where
 de0:List (List Pln)
 is7:Int
structure Ic1 where
 is8:Int
structure bd3 where
 alt:Nat
 is0:Int
structure Ac7 where
 de0:List (List Pln)
structure Ac8 where
 alt:Nat
 bs0:Bool
structure xd0 where
 O8:Int
 O9:Int
 P0:Int
 ad7:Int
 c9:Int
 c7:Int
 d7:Int
 g7:Int
structure xd1 where
 bs0:Bool
structure ed9 where
 Ua5:List Pt
 c9:Int
 c7:Int
 d7:Int
 g7:Int
structure Qc6 where
 Ua5:List Pt
 is7:Int
 c9:Int
 c7:Int
 d7:Int
 g7:Int
structure Qc7 where
 is8:Int
structure fd0 where
 alt:Nat
 is0:Int
structure Ic2 where
 Ua5:List Pt
 c9:Int
 c7:Int
 d7:Int
 g7:Int
structure Ic3 where
 alt:Nat
 bs0:Bool
structure Md6 where
 O8:Int
 O9:Int
 P0:Int
 ad7:Int
 ca2:List Pt
structure Md7 where
 alt:Nat
 bs0:Bool
structure bd4 where
 d8:List Pln
 ca2:List Pt
structure Ic4 where
 d8:List Pln
 is7:Int
structure Ic5 where
 is8:Int
 ca2:List Pt
structure bd5 where
 alt:Nat
 is0:Int
 ca2:List Pt
structure Ac9 where
 d8:List Pln
 ca2:List Pt
structure Bc0 where
 alt:Nat
 bs0:Bool
 ca2:List Pt
structure Ae0 where
 Hf9:List Pt
 vc6:Int
structure Ae1 where
 mf5:Int
 Ma5:Int
 Ma6:Int
 Ma7:Int
 ja5:Int
 ja6:Int
 ja7:Int
end Go.Ev.Ce
end
section
namespace Go.Ev.Ce
open Go Go.Ev Go.Ev.L Go.Proofs
set_option maxRecDepth 100000
structure Ke0 where
 O8:Int
 O9:Int
 P0:Int
 ad7:Int
 ca2:List Pt
structure te1 where
 If0:List Pt
 is8:Int
 ca2:List Pt
 u7:Int
 u9:Int
 v7:Int
 Ma9:Int
structure te2 where
 is4:Int
 is9:Int
structure Ke1 where
 alt:Nat
 bs0:Bool
 ca2:List Pt
structure bd6 where
 ns0:Nat
 eh0:List (List b7)
 ub9:List Pt
structure Ic6 where
 ns0:Nat
 is7:Int
 eh0:List (List b7)
structure Ic7 where
 is8:Int
 ub9:List Pt
structure bd7 where
 alt:Nat
 is0:Int
 ub9:List Pt
structure bd8 where
 ns0:Nat
 eh0:List (List b7)
 ub9:List Pt
structure Ic8 where
 ns0:Nat
structure Ic9 where
 is5:Int
 is6:Int
 eh0:List (List b7)
 ub9:List Pt
structure bd9 where
 alt:Nat
 ns0:Nat
 eh0:List (List b7)
 ub9:List Pt
structure xd2 where
 ns0:Nat
 eh0:List (List b7)
structure fd1 where
 ns0:Nat
 os4:Nat
 ns4:Nat
structure fd2 where
 is3:Int
 is5:Int
 eh0:List (List b7)
structure fd3 where
 ns0:Nat
 eh0:List (List b7)
structure fd4 where
 is3:Int
structure xd3 where
 alt:Nat
 ns0:Nat
 eh0:List (List b7)
noncomputable def Qc8:List (Nat×Sum):=[]
theorem Bc1:i7 prog G Qc8:=trivial
noncomputable def Aa4 (x:Int) (y:Int):Option (b7×List b8):=(sl (decide (x < y)) (some ((i (-1)),[])) (sl (decide (x > y)) (some ((i 1),[])) (some ((i 0),[]))))
noncomputable def ba1 (x:Int) (y:Int):Int:=C9 (one r1I) (Aa4 x y)
noncomputable def ba2 (x:Int) (y:Int):Bool:=okO (one r1I) (Aa4 x y)
noncomputable def ob1:Sum:=Z9 cI cI (fun x y=>.guard (ba2 x y) (.ret ((one r1I).enc (ba1 x y),[])))
theorem Ib3:g8 prog G 141 ob1:=Ia3 (bd Cf7 Bc1) (one r1I) (o:=Aa4) fun x y=>p5 (by kernel_rfl)
noncomputable def oc7:List (Nat×Sum):=[(141,ob1)]
theorem fc7:i7 prog G oc7:=⟨Ib3,trivial⟩
noncomputable def na5 (x:Pln) (y:Pln):Option (b7×List b8):=let t1:=(ba1 x.n.x y.n.x);let t2:=(ba1 x.n.y y.n.y);let t3:=(ba1 x.n.z y.n.z);let t4:=(ba1 x.b y.b);(sl (ba2 x.n.x y.n.x) (sl (t1==0) (sl (ba2 x.n.y y.n.y) (sl (t2==0) (sl (ba2 x.n.z y.n.z) (sl (t3==0) (sl (ba2 x.b y.b) (sl (t4==0) (some ((i t4),[])) (some ((i t4),[]))) none) (some ((i t3),[]))) none) (some ((i t2),[]))) none) (some ((i t1),[]))) none)
noncomputable def Ca7 (x:Pln) (y:Pln):Int:=C9 (one r1I) (na5 x y)
noncomputable def Ca8 (x:Pln) (y:Pln):Bool:=okO (one r1I) (na5 x y)
noncomputable def Va8:Sum:=Z9 (B0 tP) (B0 tP) (fun x y=>.guard (Ca8 x y) (.ret ((one r1I).enc (Ca7 x y),[])))
theorem oc8:g8 prog G 122 Va8:=Ia3 (bd Bf0 fc7) (one r1I) (o:=na5) fun x y=>p5 (by kernel_rfl)
noncomputable def Md8:List (Nat×Sum):=[(138,Ja0)]
theorem xd4:i7 prog G Md8:=⟨Va6,trivial⟩
noncomputable def eb6 (x:V3):Option (b7×List b8):=let t1:=(J4 24 [x.x,x.y,x.z]);(sl (J5 24 [x.x,x.y,x.z]) (some ((b t1),[])) none)
noncomputable def ta8 (x:V3):Bool:=C9 (one r1B) (eb6 x)
noncomputable def ta9 (x:V3):Bool:=okO (one r1B) (eb6 x)
noncomputable def yb4:Sum:=Q5 (B0 tV) (fun x=>.guard (ta9 x) (.ret ((one r1B).enc (ta8 x),[])))
theorem Ib4:g8 prog G 85 yb4:=ya9 (bd b85 xd4) (one r1B) (o:=eb6) fun x=>p5 (by kernel_rfl)
structure te3 where
 O8:Int
 O9:Int
 P0:Int
 ad7:Int
 p9:List Pln
structure te4 where
 alt:Nat
 bs0:Bool
structure cd0 where
 Ua5:List Pt
 p9:List Pln
structure Jc0 where
 Ua5:List Pt
 is7:Int
structure Jc1 where
 is8:Int
 p9:List Pln
structure cd1 where
 alt:Nat
 is0:Int
 p9:List Pln
structure Bc2 where
 Ua5:List Pt
 p9:List Pln
structure Bc3 where
 alt:Nat
 bs0:Bool
 p9:List Pln
structure gf2 where
 g7:Int
 wf7:Int
 wf8:Int
 wf9:Int
 xf0:Int
 xf1:Int
end Go.Ev.Ce
end
namespace Go.Proofs
open Go.Shelf
set_option maxRecDepth 100000 in
def Ce.sortLay_ren:Go.Shelf.Ren:=⟨fun | 6=>121 | 15=>180 | 14=>179 | 28=>207 | 29=>208 | 20=>199 | 21=>200 | 22=>201 | 23=>202 | 24=>203 | 25=>204 | 26=>205 | 27=>206 | 46=>223 | 47=>224 | 48=>225 | 49=>226 | 50=>227 | 57=>233 | n=>n,fun | 22=>24 | 24=>73 | 25=>148 | 3=>3 | 39=>173 | 0=>0 | 53=>197 | 55=>199 | 4=>4 | 46=>191 | 45=>190 | 50=>50 | 5=>5 | 9=>9 | 66=>210 | 70=>214 | 76=>218 | 77=>219 | n=>n,fun | n=>n⟩
set_option maxRecDepth 100000 in
theorem Ce.sortLay:Go.Proofs.SlLaysF0.n6 Tryz.prog Ce.sortLay_ren:={
 mixed:=by kernel_rfl
 f6:=⟨Tryz.f121.name,by decide,Tryz.func121.trans (congrArg some (by kernel_rfl))⟩
 f14:=⟨Tryz.f179.name,by decide,Tryz.func179.trans (congrArg some (by kernel_rfl))⟩
 f15:=Tryz.func180.trans (congrArg some (by kernel_rfl))
 f20:=⟨Tryz.f199.name,by decide,Tryz.func199.trans (congrArg some (by kernel_rfl))⟩
 f21:=⟨Tryz.f200.name,by decide,Tryz.func200.trans (congrArg some (by kernel_rfl))⟩
 f22:=⟨Tryz.f201.name,by decide,Tryz.func201.trans (congrArg some (by kernel_rfl))⟩
 f23:=⟨Tryz.f202.name,by decide,Tryz.func202.trans (congrArg some (by kernel_rfl))⟩
 f24:=⟨Tryz.f203.name,by decide,Tryz.func203.trans (congrArg some (by kernel_rfl))⟩
 f25:=⟨Tryz.f204.name,by decide,Tryz.func204.trans (congrArg some (by kernel_rfl))⟩
 f26:=⟨Tryz.f205.name,by decide,Tryz.func205.trans (congrArg some (by kernel_rfl))⟩
 f27:=⟨Tryz.f206.name,by decide,Tryz.func206.trans (congrArg some (by kernel_rfl))⟩
 f28:=Tryz.func207.trans (congrArg some (by kernel_rfl))
 f29:=Tryz.func208.trans (congrArg some (by kernel_rfl))
 f46:=⟨Tryz.f223.name,by decide,Tryz.func223.trans (congrArg some (by kernel_rfl))⟩
 f47:=Tryz.func224.trans (congrArg some (by kernel_rfl))
 f48:=Tryz.func225.trans (congrArg some (by kernel_rfl))
 f49:=⟨Tryz.f226.name,by decide,Tryz.func226.trans (congrArg some (by kernel_rfl))⟩
 f50:=⟨Tryz.f227.name,by decide,Tryz.func227.trans (congrArg some (by kernel_rfl))⟩
 f57:=⟨Tryz.f233.name,by decide,Tryz.func233.trans (congrArg some (by kernel_rfl))⟩
 t0:=Tryz.underlying0
 a0:=Tryz.isAgg0
 z0:=Tryz.sizeOf0
 v0:=Tryz.zeroValue0
 t3:=Tryz.underlying3
 a3:=Tryz.isAgg3
 z3:=Tryz.sizeOf3
 v3:=Tryz.zeroValue3
 t4:=Tryz.underlying4
 a4:=Tryz.isAgg4
 z4:=Tryz.sizeOf4
 v4:=Tryz.zeroValue4
 t5:=Tryz.underlying5
 a5:=Tryz.isAgg5
 z5:=Tryz.sizeOf5
 v5:=Tryz.zeroValue5
 t9:=Tryz.underlying9
 a9:=Tryz.isAgg9
 z9:=Tryz.sizeOf9
 v9:=Tryz.zeroValue9
 t22:=Tryz.underlying24
 a22:=Tryz.isAgg24
 z22:=Tryz.sizeOf24
 v22:=Tryz.zeroValue24
 t25:=Tryz.underlying148
 a25:=Tryz.isAgg148
 z25:=Tryz.sizeOf148
 v25:=Tryz.zeroValue148
 t39:=Tryz.underlying173
 a39:=Tryz.isAgg173
 z39:=Tryz.sizeOf173
 v39:=Tryz.zeroValue173
 t45:=Tryz.underlying190
 a45:=Tryz.isAgg190
 z45:=Tryz.sizeOf190
 v45:=Tryz.zeroValue190
 t46:=Tryz.underlying191
 a46:=Tryz.isAgg191
 z46:=Tryz.sizeOf191
 v46:=Tryz.zeroValue191
 t50:=Tryz.underlying50
 a50:=Tryz.isAgg50
 z50:=Tryz.sizeOf50
 v50:=Tryz.zeroValue50
 t53:=Tryz.underlying197
 a53:=Tryz.isAgg197
 z53:=Tryz.sizeOf197
 v53:=Tryz.zeroValue197
 t55:=Tryz.underlying199
 a55:=Tryz.isAgg199
 z55:=Tryz.sizeOf199
 v55:=Tryz.zeroValue199
 t66:=Tryz.underlying210
 a66:=Tryz.isAgg210
 z66:=Tryz.sizeOf210
 v66:=Tryz.zeroValue210
 t70:=Tryz.underlying214
 a70:=Tryz.isAgg214
 z70:=Tryz.sizeOf214
 v70:=Tryz.zeroValue214
 t76:=Tryz.underlying218
 a76:=Tryz.isAgg218
 z76:=Tryz.sizeOf218
 v76:=Tryz.zeroValue218
 t77:=Tryz.underlying219
 a77:=Tryz.isAgg219
 z77:=Tryz.sizeOf219
 v77:=Tryz.zeroValue219 }
end Go.Proofs
namespace Go.Ev.Ce
open Go Go.Ev Go.Ev.L Go.Proofs Go.Sort
def ob2 (x y:Int):Int:=if x < y then -1 else if x > y then 1 else 0
def ob3 (x y:Pln):Int :=
 if ob2 x.n.x y.n.x=0 then if ob2 x.n.y y.n.y=0 then if ob2 x.n.z y.n.z=0 then ob2 x.b y.b else ob2 x.n.z y.n.z else ob2 x.n.y y.n.y else ob2 x.n.x y.n.x
theorem yb5 (x y:Int):ob2 x y < 0↔x < y:=by unfold ob2;split<;>(try split)<;>omega
theorem fc8 (x y:Int):ob2 x y=0↔x=y:=by unfold ob2;split<;>(try split)<;>omega
def LtP (x y:Pln):Prop:=x.n.x < y.n.x∨x.n.x=y.n.x∧(x.n.y < y.n.y∨x.n.y=y.n.y∧(x.n.z < y.n.z∨x.n.z=y.n.z∧x.b < y.b))
instance (x y:Pln):Decidable (LtP x y):=by unfold LtP;exact inferInstance
theorem xd5 (x y:Pln):ob3 x y < 0↔LtP x y:=by
 have h1:=yb5 x.n.x y.n.x;have h2:=fc8 x.n.x y.n.x
 have h3:=yb5 x.n.y y.n.y;have h4:=fc8 x.n.y y.n.y
 have h5:=yb5 x.n.z y.n.z;have h6:=fc8 x.n.z y.n.z
 have h7:=yb5 x.b y.b
 unfold ob3 LtP
 split
 ·split
  ·split<;>omega
  ·omega
 ·omega
theorem Oa9 (x y:Pln):ltOf ob3 x y=decide (LtP x y):=by
 unfold ltOf
 rw[decide_eq_decide]
 exact xd5 x y
theorem tf5:SWO (ltOf ob3) where
 irrefl x:=by rw[Oa9];simp[LtP]
 trans x y z h1 h2:=by rw[Oa9,decide_eq_true_eq] at *;unfold LtP at *;omega
 ntrans x y z h1 h2:=by rw[Oa9,decide_eq_false_iff_not] at *;unfold LtP at *;omega
theorem Ff9 (x y:Pln) (h1:ltOf ob3 x y=false) (h2:ltOf ob3 y x=false):x=y:=by
 rw[Oa9,decide_eq_false_iff_not] at *
 unfold LtP at *
 obtain⟨⟨a,b,c⟩,d⟩:=x;obtain⟨⟨a',b',c'⟩,d'⟩:=y
 simp only at *
 have:a=a'∧b=b'∧c=c'∧d=d':=by omega
 obtain⟨rfl,rfl,rfl,rfl⟩:=this
 rfl
theorem Md9 (x y:Int):Aa4 x y=some (i (ob2 x y),[]):=by
 unfold Aa4 ob2
 simp only[xb1,decide_eq_true_eq]
 split<;>(try split)<;>rfl
theorem ge4 (x y:Int):ba1 x y=ob2 x y:=by unfold ba1;rw[Md9];rfl
theorem ge5 (x y:Int):ba2 x y=true:=by unfold ba2;rw[Md9];rfl
theorem Qc9 (x y:Pln):na5 x y=some (i (ob3 x y),[]):=by
 unfold na5 ob3
 simp only[ge4,ge5,xb1,beq_iff_eq,if_true]
 repeat' (first | rfl | split)
theorem tf6 (x y:Pln):Ca7 x y=ob3 x y:=by unfold Ca7;rw[Qc9];rfl
theorem tf7 (x y:Pln):Ca8 x y=true:=by unfold Ca8;rw[Qc9];rfl
theorem tf8 (x y:Pln):(Va8 [.agg (tP.row x),.agg (tP.row y)] []).run=some (i (ob3 x y),[]):=by
 have:(Va8 [.agg (tP.row x),.agg (tP.row y)] []).run=sel (Ca8 x y) (some (i (Ca7 x y),[])) none:=by kernel_rfl
 rw[this,tf7,tf6]
def nc6 (p:Pln):List Value:=[.int .i64 p.n.x,.int .i64 p.n.y,.int .i64 p.n.z,.int .i64 p.b]
instance:Inhabited Pln:=⟨⟨⟨0,0,0⟩,0⟩⟩
def Sb0 (l:List Pln):List Pln:=l.mergeSort fun x y=>!ltOf ob3 y x
theorem Ob2 (l:List Pln):(Sb0 l).length=l.length:=List.length_mergeSort l
noncomputable def Ga1:Sum:=fe6 tP 122 73 Sb0
theorem Ae2:Ce.sortLay_ren.f 6=121:=by kernel_rfl
theorem od8:Ce.sortLay_ren.t 24=73:=by kernel_rfl
set_option maxRecDepth 100000 in
theorem ob4:g8 prog G 121 Ga1:=by
 refine fe7 (enc:=nc6) (cf:=ob3) ⟨_,Tryz.func121,by kernel_rfl,of_decide_eq_true (by kernel_rfl)⟩ (by decide) (fun _=>rfl) (fun r h=>Oa4 (n:=4) h) (fun x v hv=>?_) Ob2
  (fun blk off size w=>fe5 oc8 tf8 (fun _=>rfl) (fun _=>rfl) _ _ _ _ _) (fun blk cap d w hcl hH hb hs=>?_)
 ·simp[nc6] at hv
  rcases hv with rfl | rfl | rfl | rfl<;>rfl
 ·have eg:∀ args w,(callFunc 122 args).run Tryz.prog w=.ok (.enter 122 args) w:=enters_of Tryz.func122 (by kernel_rfl) rfl
  have:=AnyQ.slices_SortFunc Ce.sortLay 4 (by rw[od8];exact Tryz.isAgg73) (by rw[od8];exact Tryz.sizeOf73) nc6 (fun _=>rfl) (fun x v hv=>by simp[nc6] at hv;rcases hv with rfl | rfl | rfl | rfl<;>rfl) ob3 tf5 122 #[] blk 0 cap d w eg (hcl 0 d.size) hH hb hs
  rw[Ae2] at this
  refine this.mono fun e w' ⟨h1,d',n,os,h2,h3,h4⟩=>⟨h1,n,os,?_⟩
  have h5:=sorted_unique_holds tf5 Ff9 d d' h2 h3
  rw[h4]
  show _=sortWorldK nc6 4 w blk 0 n (d.toList.mergeSort fun x y=>!ltOf ob3 y x).toArray os
  rw[← h5]
end Go.Ev.Ce
section
namespace Go.Ev.Ce
open Go Go.Ev Go.Ev.L Go.Proofs
set_option maxRecDepth 100000
structure Ca9 where
 is1:Int
 i4:List Int
 c7:Int
noncomputable def oc9:List (Nat×Sum):=[(27,sb5)]
theorem fc9:i7 prog G oc9:=⟨yb3,trivial⟩
structure Da0 where
 alt:Nat
 is0:Int
 c7:Int
noncomputable def ea3 {α:Type} (kk:Da0→α) (x:Ca9):α:=let t1:=(pa7 (gL tI x.i4 (W ((W (x.c7+1)) - 1)).toNat) x.is1);(sl (decide (x.c7≥(↑(List.length x.i4):Int))) (kk ⟨1,0,x.c7⟩) (sl (inB (W ((W (x.c7+1)) - 1)) (List.length x.i4)) (sl (ka4 (gL tI x.i4 (W ((W (x.c7+1)) - 1)).toNat) x.is1) (kk ⟨1,t1,(W (x.c7+1))⟩) (kk ⟨0,0,0⟩)) (kk ⟨0,0,0⟩)))
noncomputable def j8 (x:Ca9):Da0:=ea3 (fun r=>r) x
noncomputable def Pa0 (x:Ca9) (r:Da0):DT (b7×List b8):=(.ite (Nat.beq r.alt 1) (.ret ((i r.is0),[⟨0,2,[[(eL tI x.i4),(i r.c7)]],true,false,0⟩])) .fail)
theorem Bc4 {α β:Type} (F:α→β) (kk:Da0→α) (x:Ca9):F (ea3 kk x)=ea3 (fun r=>F (kk r)) x:=by unfold ea3;(repeat' apply k9 (f:=F))<;>rfl
noncomputable def na6:Sum:=nb6 ⟨[(.s (.o (.ptr 0 0 0 0))),(.s (.o (.int .i64)))],[⟨0,2,true,(some [[(.c 1 (nL tI)),(.o (.int .i64))]])⟩],fun a H=>(⟨(toI (slT a 1)),(rL tI (slT (rwT (elT H 0) 0) 0)),(toI (slT (rwT (elT H 0) 0) 1))⟩,())⟩ (fun x=>Pa0 x (j8 x))
theorem xa4:g8 prog G 68 na6:=V5 (enc:=fun x=>⟨[(.ptr 0 0 0 0),(i x.is1)],[⟨0,2,[[(eL tI x.i4),(i x.c7)]],true,false,0⟩]⟩) (fun a H=>by kernel_rfl) (bd b68 fc9) fun x=>p5 (Eq.trans (b:=ea3 (fun r=>(Pa0 x r).run) x) (by kernel_rfl) (Bc4 (fun r=>(Pa0 x r).run) (fun r=>r) x).symm)
structure Ob3 where
 is1:Int
 i4:List Int
 c7:Int
noncomputable def Zd4:List (Nat×Sum):=[(68,na6)]
theorem Nd0:i7 prog G Zd4:=⟨xa4,trivial⟩
structure Ob4 where
 alt:Nat
 O8:Int
 O9:Int
 P0:Int
 i4:List Int
 c7:Int
noncomputable def bb3 {α:Type} (kk:Ob4→α) (x:Ob3):α:=let t1:=(j8 ⟨(W ((W (2*x.is1))+1)),(rt tI x.i4),x.c7⟩);let t2:=(j8 ⟨(W ((W (2*x.is1))+1)),(rt tI (rt tI x.i4)),t1.c7⟩);let t3:=(j8 ⟨(W ((W (2*x.is1))+1)),(rt tI (rt tI (rt tI x.i4))),t2.c7⟩);(sl ((cnE tI x.i4)&&true) (sl (Nat.beq t1.alt 1) (sl ((cnE tI (rt tI x.i4))&&true) (sl (Nat.beq t2.alt 1) (sl ((cnE tI (rt tI (rt tI x.i4)))&&true) (sl (Nat.beq t3.alt 1) (kk ⟨1,(W (t1.is0 - x.is1)),(W (t2.is0 - x.is1)),(W (t3.is0 - x.is1)),(rt tI (rt tI (rt tI x.i4))),t3.c7⟩) (kk ⟨0,0,0,0,[],0⟩)) (kk ⟨0,0,0,0,[],0⟩)) (kk ⟨0,0,0,0,[],0⟩)) (kk ⟨0,0,0,0,[],0⟩)) (kk ⟨0,0,0,0,[],0⟩)) (kk ⟨0,0,0,0,[],0⟩))
noncomputable def Pa1 (x:Ob3):Ob4:=bb3 (fun r=>r) x
noncomputable def Xb5 (x:Ob3) (r:Ob4):DT (b7×List b8):=(.ite (Nat.beq r.alt 1) (.ret ((.agg [(i r.O8),(i r.O9),(i r.P0)]),[⟨0,2,[[(eL tI r.i4),(i r.c7)]],true,false,0⟩])) .fail)
theorem pe4 {α β:Type} (F:α→β) (kk:Ob4→α) (x:Ob3):F (bb3 kk x)=bb3 (fun r=>F (kk r)) x:=by unfold bb3;(repeat' apply k9 (f:=F))<;>rfl
noncomputable def pc0:Sum:=nb6 ⟨[(.s (.o (.ptr 0 0 0 0))),(.s (.o (.int .i64)))],[⟨0,2,true,(some [[(.c 1 (nL tI)),(.o (.int .i64))]])⟩],fun a H=>(⟨(toI (slT a 1)),(rL tI (slT (rwT (elT H 0) 0) 0)),(toI (slT (rwT (elT H 0) 0) 1))⟩,())⟩ (fun x=>Xb5 x (Pa1 x))
theorem Rc0:g8 prog G 69 pc0:=V5 (enc:=fun x=>⟨[(.ptr 0 0 0 0),(i x.is1)],[⟨0,2,[[(eL tI x.i4),(i x.c7)]],true,false,0⟩]⟩) (fun a H=>by kernel_rfl) (bd b69 Nd0) fun x=>p5 (Eq.trans (b:=bb3 (fun r=>(Xb5 x r).run) x) (by kernel_rfl) (pe4 (fun r=>(Xb5 x r).run) (fun r=>r) x).symm)
noncomputable def Zd5:List (Nat×Sum):=[]
theorem Nd1:i7 prog G Zd5:=trivial
noncomputable def Ga2 (x:V3) (y:V3):V3:=(⟨(W (x.x - y.x)),(W (x.y - y.y)),(W (x.z - y.z))⟩:V3)
noncomputable def pc1:Sum:=Z9 (B0 tV) (B0 tV) (fun x y=>.ret ((one r1V).enc (Ga2 x y),[]))
theorem Rc1:g8 prog G 128 pc1:=ra7 (bd Bf6 Nd1) fun x y=>p5 (by kernel_rfl)
noncomputable def pe5:List (Nat×Sum):=[(191,xa3)]
theorem Zd6:i7 prog G pe5:=⟨Ia7,trivial⟩
noncomputable def Ib5 (x:V3):Option (b7×List b8):=(sl (decide (x.x < (-24))) (some ((b false),[])) (sl (decide (x.x > 24)) (some ((b false),[])) (sl (decide (x.y < (-24))) (some ((b false),[])) (sl (decide (x.y > 24)) (some ((b false),[])) (sl (decide (x.z < (-24))) (some ((b false),[])) (sl (decide (x.z > 24)) (some ((b false),[])) (some ((b true),[]))))))))
noncomputable def Ta0 (x:V3):Bool:=C9 (one r1B) (Ib5 x)
noncomputable def Ta1 (x:V3):Bool:=okO (one r1B) (Ib5 x)
noncomputable def gc0:Sum:=Q5 (B0 tV) (fun x=>.guard (Ta1 x) (.ret ((one r1B).enc (Ta0 x),[])))
theorem pc2:g8 prog G 162 gc0:=ya9 (bd Df5 Zd6) (one r1B) (o:=Ib5) fun x=>p5 (by kernel_rfl)
noncomputable def Rc2:List (Nat×Sum):=[(162,gc0),(128,pc1),(164,Hb8),(163,Wb8),(84,Nb8)]
theorem Bc5:i7 prog G Rc2:=⟨pc2,Rc1,ec2,wc9,Wb5,trivial⟩
noncomputable def Aa5 (x:V3) (y:V3) (z:V3):Option (b7×List b8):=let t1:=(Ta0 x);let t2:=(Ta0 y);let t3:=(Ta0 z);let t4:=(Ga2 y x);let t5:=(Ga2 z x);let t6:=(P5 t4 t5);let t7:=(Ea9 t6);let t8:=(Fa8 t7.1 x);(sl (Ta1 x) (sl (!t1) (some ((.tup [(.agg [(i 0),(i 0),(i 0),(i 0)]),(b false)]),[])) (sl (Ta1 y) (sl (!t2) (some ((.tup [(.agg [(i 0),(i 0),(i 0),(i 0)]),(b false)]),[])) (sl (Ta1 z) (sl (!t3) (some ((.tup [(.agg [(i 0),(i 0),(i 0),(i 0)]),(b false)]),[])) (sl (eb3 t6) (sl (t7.2==0) (some ((.tup [(.agg [(i 0),(i 0),(i 0),(i 0)]),(b false)]),[])) (some ((.tup [(.agg [(i t7.1.x),(i t7.1.y),(i t7.1.z),(i t8)]),(b true)]),[]))) none)) none)) none)) none)
noncomputable def ha9 (x:V3) (y:V3) (z:V3):Pln×Bool:=C9 (two r1P r1B) (Aa5 x y z)
noncomputable def ia0 (x:V3) (y:V3) (z:V3):Bool:=okO (two r1P r1B) (Aa5 x y z)
noncomputable def Qa8:Sum:=Nc5 (B0 tV) (B0 tV) (B0 tV) (fun x y z=>.guard (ia0 x y z) (.ret ((two r1P r1B).enc (ha9 x y z),[])))
theorem eb7:g8 prog G 107 Qa8:=Me8 (bd Af5 Bc5) (two r1P r1B) (o:=Aa5) fun x y z=>p5 (by kernel_rfl)
noncomputable def Nd2:List (Nat×Sum):=[(68,na6),(69,pc0),(107,Qa8),(27,sb5)]
theorem xd6:i7 prog G Nd2:=⟨xa4,Rc0,eb7,yb3,trivial⟩
noncomputable def eb8 (x:List Int):Option (b7×List b8):=let t1:=(j8 ⟨8,(rt tI x),0⟩);let t2:=(j8 ⟨17,(rt tI (rt tI x)),t1.c7⟩);let t3:=(Pa1 ⟨8,(rt tI (rt tI (rt tI x))),t2.c7⟩);let t4:=(Pa1 ⟨8,(rt tI t3.i4),t3.c7⟩);let t5:=(Pa1 ⟨8,(rt tI t4.i4),t4.c7⟩);let t6:=(ha9 (⟨t3.O8,t3.O9,t3.P0⟩:V3) (⟨t4.O8,t4.O9,t4.P0⟩:V3) (⟨t5.O8,t5.O9,t5.P0⟩:V3));let t7:=(pa7 (W (t2.is0 - 8)) 3);(sl ((cnE tI x)&&true) (sl (Nat.beq t1.alt 1) (sl ((cnE tI (rt tI x))&&true) (sl (Nat.beq t2.alt 1) (sl ((cnE tI (rt tI (rt tI x)))&&true) (sl (Nat.beq t3.alt 1) (sl ((cnE tI t3.i4)&&true) (sl (Nat.beq t4.alt 1) (sl ((cnE tI t4.i4)&&true) (sl (Nat.beq t5.alt 1) (sl (ia0 (⟨t3.O8,t3.O9,t3.P0⟩:V3) (⟨t4.O8,t4.O9,t4.P0⟩:V3) (⟨t5.O8,t5.O9,t5.P0⟩:V3)) (sl (decide (t1.is0 > 1)) (sl t6.2 (some ((.agg [(i t6.1.n.x),(i t6.1.n.y),(i t6.1.n.z),(i t6.1.b)]),[])) (sl (ka4 (W (t2.is0 - 8)) 3) (sl (t7==1) (some ((.agg [(i 0),(i (W (1 - (W (2*(Int.tmod t1.is0 2)))))),(i 0),(i (W (t2.is0 - 8)))]),[])) (sl (t7==2) (some ((.agg [(i 0),(i 0),(i (W (1 - (W (2*(Int.tmod t1.is0 2)))))),(i (W (t2.is0 - 8)))]),[])) (some ((.agg [(i (W (1 - (W (2*(Int.tmod t1.is0 2)))))),(i 0),(i 0),(i (W (t2.is0 - 8)))]),[])))) none)) (sl (ka4 (W (t2.is0 - 8)) 3) (sl (t7==1) (some ((.agg [(i 0),(i (W (1 - (W (2*(Int.tmod t1.is0 2)))))),(i 0),(i (W (t2.is0 - 8)))]),[])) (sl (t7==2) (some ((.agg [(i 0),(i 0),(i (W (1 - (W (2*(Int.tmod t1.is0 2)))))),(i (W (t2.is0 - 8)))]),[])) (some ((.agg [(i (W (1 - (W (2*(Int.tmod t1.is0 2)))))),(i 0),(i 0),(i (W (t2.is0 - 8)))]),[])))) none)) none) none) none) none) none) none) none) none) none) none) none)
noncomputable def Rc3 (x:List Int):Pln:=C9 (one r1P) (eb8 x)
noncomputable def yb6 (x:List Int):Bool:=okO (one r1P) (eb8 x)
noncomputable def Rc4:Sum:=Q5 (fa0 tI) (fun x=>.guard (yb6 x) (.ret ((one r1P).enc (Rc3 x),[])))
theorem Nd3:g8 prog G 51 Rc4:=ya9 (bd b51 xd6) (one r1P) (o:=eb8) fun x=>p5 (by kernel_rfl)
noncomputable def Nd4:List (Nat×Sum):=[(128,pc1)]
theorem xd7:i7 prog G Nd4:=⟨Rc1,trivial⟩
noncomputable def yb7 (x:Pln):Pln:=let t1:=(Ga2 (⟨0,0,0⟩:V3) x.n);(⟨t1,(W (0 - x.b))⟩:Pln)
noncomputable def Xb6:Sum:=Q5 (B0 tP) (fun x=>.ret ((one r1P).enc (yb7 x),[]))
theorem xc2:g8 prog G 73 Xb6:=kb8 (bd b73 xd7) fun x=>p5 (by kernel_rfl)
noncomputable def Nd5:List (Nat×Sum):=[(156,lb2),(162,gc0),(84,Nb8)]
theorem xd8:i7 prog G Nd5:=⟨xb8,pc2,Wb5,trivial⟩
noncomputable def eb9 (x:Pln) (y:V3):Option (b7×List b8):=let t1:=(ta2 x);let t2:=(Ta0 y);let t3:=(Fa8 x.n y);(sl (ta3 x) (sl (!t1) (some ((i 0),[])) (sl (Ta1 y) (sl (!t2) (some ((i 0),[])) (sl (decide ((W (t3 - x.b)) < 0)) (some ((i (-1)),[])) (sl (decide ((W (t3 - x.b)) > 0)) (some ((i 1),[])) (some ((i 0),[]))))) none)) none)
noncomputable def yb8 (x:Pln) (y:V3):Int:=C9 (one r1I) (eb9 x y)
noncomputable def yb9 (x:Pln) (y:V3):Bool:=okO (one r1I) (eb9 x y)
noncomputable def Xb7:Sum:=Z9 (B0 tP) (B0 tV) (fun x y=>.guard (yb9 x y) (.ret ((one r1I).enc (yb8 x y),[])))
theorem xc3:g8 prog G 135 Xb7:=Ia3 (bd Cf3 xd8) (one r1I) (o:=eb9) fun x y=>p5 (by kernel_rfl)
noncomputable def Ib6:List (Nat×Sum):=[]
theorem Bc6:i7 prog G Ib6:=trivial
structure na7 where
 c9:Int
 c7:Int
 d7:Int
 g7:Int
 u7:Int
 u9:Int
 v7:Int
 Ma9:Int
structure P7 where
 is7:Int
noncomputable def pc3 (p:na7) (s:P7):St:=⟨(ra 5 ((.ptr 0 0 0 0)::((.ptr 1 0 0 0)::((i s.is7)::(ra 42 []))))),[⟨0,4,[[(i p.c9),(i p.c7),(i p.d7),(i p.g7)]],true,false,0⟩,⟨0,4,[[(i p.u7),(i p.u9),(i p.v7),(i p.Ma9)]],true,false,0⟩]⟩
noncomputable def fa5 {α:Type} (k:P7→α) (e:Nat→α) (z:α) (p:na7) (s:P7):α:=(sl (decide (s.is7 < 4)) (sl (inB s.is7 4) (sl ((Nat.ble ((0+(s.is7.toNat*1))+1) 4)&&(L9 [(CK.int .i64)] (g9 [(i p.c9),(i p.c7),(i p.d7),(i p.g7)] (0+(s.is7.toNat*1))))) (sl (inB s.is7 4) (sl ((Nat.ble ((0+(s.is7.toNat*1))+1) 4)&&(L9 [(CK.int .i64)] (g9 [(i p.u7),(i p.u9),(i p.v7),(i p.Ma9)] (0+(s.is7.toNat*1))))) (sl (decide ((toI (hdA (g9 [(i p.c9),(i p.c7),(i p.d7),(i p.g7)] (0+(s.is7.toNat*1))))) < (toI (hdA (g9 [(i p.u7),(i p.u9),(i p.v7),(i p.Ma9)] (0+(s.is7.toNat*1))))))) (e 1) (sl (inB s.is7 4) (sl ((Nat.ble ((0+(s.is7.toNat*1))+1) 4)&&(L9 [(CK.int .i64)] (g9 [(i p.c9),(i p.c7),(i p.d7),(i p.g7)] (0+(s.is7.toNat*1))))) (sl (inB s.is7 4) (sl ((Nat.ble ((0+(s.is7.toNat*1))+1) 4)&&(L9 [(CK.int .i64)] (g9 [(i p.u7),(i p.u9),(i p.v7),(i p.Ma9)] (0+(s.is7.toNat*1))))) (sl (decide ((toI (hdA (g9 [(i p.c9),(i p.c7),(i p.d7),(i p.g7)] (0+(s.is7.toNat*1))))) > (toI (hdA (g9 [(i p.u7),(i p.u9),(i p.v7),(i p.Ma9)] (0+(s.is7.toNat*1))))))) (e 2) (k ⟨(W (s.is7+1))⟩)) z) z) z) z)) z) z) z) z) (e 3))
noncomputable def ba6 (p:na7) (s:P7):Stp P7:=fa5 .next .exit .fail p s
noncomputable def Va9:Lo na7 P7:=⟨En Ib6,0,Ze5,[1,1,1,0,1,4,4],[5,6,7],.p,[⟨(ru2 5 ((.s (.o (.ptr 0 0 0 0)))::((.s (.o (.ptr 1 0 0 0)))::((.s (.o (.int .i64)))::(ru2 42 []))))),[⟨0,4,true,(some [[(.o (.int .i64)),(.o (.int .i64)),(.o (.int .i64)),(.o (.int .i64))]])⟩,⟨0,4,true,(some [[(.o (.int .i64)),(.o (.int .i64)),(.o (.int .i64)),(.o (.int .i64))]])⟩],fun a H=>(⟨(toI (slT (rwT (elT H 0) 0) 0)),(toI (slT (rwT (elT H 0) 0) 1)),(toI (slT (rwT (elT H 0) 0) 2)),(toI (slT (rwT (elT H 0) 0) 3)),(toI (slT (rwT (elT H 1) 0) 0)),(toI (slT (rwT (elT H 1) 0) 1)),(toI (slT (rwT (elT H 1) 0) 2)),(toI (slT (rwT (elT H 1) 0) 3))⟩,⟨(toI (slT a 7))⟩)⟩],ba6,[(none,fun p s=>⟨[(i (-1))],[]⟩),(none,fun p s=>⟨[(i 1)],[]⟩),(some 0,fun p s=>⟨(ra 5 ((.ptr 0 0 0 0)::((.ptr 1 0 0 0)::((i s.is7)::(ra 24 ((i s.is7)::((b (decide (s.is7 < 4)))::(ra 16 [])))))))),[⟨0,4,[[(i p.c9),(i p.c7),(i p.d7),(i p.g7)]],true,false,0⟩,⟨0,4,[[(i p.u7),(i p.u9),(i p.v7),(i p.Ma9)]],true,false,0⟩]⟩)],pc3⟩
theorem pc4:Va9.Ok:=Lo.ok [] (by kernel_rfl) .nil rfl (.cons (fun a H=>by kernel_rfl) .nil) fun p s=>(.of @fa5 (fun F _ _ _ _ _=>by unfold fa5;(repeat' apply k9 (f:=F))<;>rfl) (by kernel_rfl))
noncomputable def Aa6 (x:Pln) (y:Pln):Option (b7×List b8):=let t1:=(lp (ba6 (⟨x.n.x,x.n.y,x.n.z,x.b,y.n.x,y.n.y,y.n.z,y.b⟩:na7)) (⟨0⟩:P7));(sl (Nat.beq t1.1 1) (some ((i (-1)),[])) (sl (Nat.beq t1.1 2) (some ((i 1),[])) (sl (Nat.beq t1.1 3) (some ((i 0),[])) none)))
noncomputable def Aa7 (x:Pln) (y:Pln):Int:=C9 (one r1I) (Aa6 x y)
noncomputable def ob5 (x:Pln) (y:Pln):Bool:=okO (one r1I) (Aa6 x y)
noncomputable def Sb1:Sum:=Z9 (B0 tP) (B0 tP) (fun x y=>.guard (ob5 x y) (.ret ((one r1I).enc (Aa7 x y),[])))
theorem Rc5:g8 prog G 182 Sb1:=Ia3 (bd Ef3 Bc6) (one r1I) (o:=Aa6) fun x y=>sa8 (.s .p (.s .p (.s .p (.s (.s .p (.b (.u Va9.ls))) .p)))) [Va9.pr] (by kernel_rfl) (.cons pc4 .nil) (by kernel_rfl)
noncomputable def Zd7:List (Nat×Sum):=[(27,sb5)]
theorem Nd6:i7 prog G Zd7:=⟨yb3,trivial⟩
noncomputable def sb9 (x:Pln) (y:V3):Option (b7×List b8):=let t1:=(pa7 y.z 9);let t2:=(pa7 y.x 5);(sl (ka4 y.z 9) (sl (inB t1 9) (sl ((Nat.ble 1 (len (i6 [[(i y.y)],[(i 0)],[(i 4608)],[(i 4609)],[(i (-4609))],[(i (W (2*x.n.x)))],[(i 2097152)],[(i 2097153)],[(i (-2097152))]] (0+t1.toNat))))&&(L9 [(CK.int .i64)] (i6 [[(i y.y)],[(i 0)],[(i 4608)],[(i 4609)],[(i (-4609))],[(i (W (2*x.n.x)))],[(i 2097152)],[(i 2097153)],[(i (-2097152))]] (0+t1.toNat)))) (sl (ka4 y.x 5) (sl (t2==0) (some ((.agg [(i (toI (hdA (i6 [[(i y.y)],[(i 0)],[(i 4608)],[(i 4609)],[(i (-4609))],[(i (W (2*x.n.x)))],[(i 2097152)],[(i 2097153)],[(i (-2097152))]] (0+t1.toNat))))),(i x.n.y),(i x.n.z),(i x.b)]),[])) (sl (t2==1) (some ((.agg [(i x.n.x),(i (toI (hdA (i6 [[(i y.y)],[(i 0)],[(i 4608)],[(i 4609)],[(i (-4609))],[(i (W (2*x.n.x)))],[(i 2097152)],[(i 2097153)],[(i (-2097152))]] (0+t1.toNat))))),(i x.n.z),(i x.b)]),[])) (sl (t2==2) (some ((.agg [(i x.n.x),(i x.n.y),(i (toI (hdA (i6 [[(i y.y)],[(i 0)],[(i 4608)],[(i 4609)],[(i (-4609))],[(i (W (2*x.n.x)))],[(i 2097152)],[(i 2097153)],[(i (-2097152))]] (0+t1.toNat))))),(i x.b)]),[])) (sl (t2==3) (some ((.agg [(i x.n.x),(i x.n.y),(i x.n.z),(i (toI (hdA (i6 [[(i y.y)],[(i 0)],[(i 4608)],[(i 4609)],[(i (-4609))],[(i (W (2*x.n.x)))],[(i 2097152)],[(i 2097153)],[(i (-2097152))]] (0+t1.toNat)))))]),[])) (sl (t2==4) (some ((.agg [(i (W (2*x.n.x))),(i (W (2*x.n.y))),(i (W (2*x.n.z))),(i x.b)]),[])) (some ((.agg [(i x.n.x),(i x.n.y),(i x.n.z),(i x.b)]),[]))))))) none) none) none) none)
noncomputable def od9 (x:Pln) (y:V3):Pln:=C9 (one r1P) (sb9 x y)
noncomputable def pc5 (x:Pln) (y:V3):Bool:=okO (one r1P) (sb9 x y)
noncomputable def pd0:Sum:=Z9 (B0 tP) (B0 tV) (fun x y=>.guard (pc5 x y) (.ret ((one r1P).enc (od9 x y),[])))
theorem Zd8:g8 prog G 72 pd0:=Ia3 (bd b72 Nd6) (one r1P) (o:=sb9) fun x y=>p5 (by kernel_rfl)
end Go.Ev.Ce
end
section
namespace Go.Ev.Ce
open Go Go.Ev Go.Ev.L Go.Proofs
set_option maxRecDepth 100000
noncomputable def Ta2:List (Nat×Sum):=[(107,Qa8),(135,Xb7)]
theorem xd9:i7 prog G Ta2:=⟨eb7,xc3,trivial⟩
structure la3 where
 d9:List V3
 is3:Int
 is4:Int
 is5:Int
 bs7:Bool
 c9:Int
 c7:Int
 d7:Int
 g7:Int
structure fa6 where
 is8:Int
noncomputable def fd5 (p:la3) (s:fa6):St:=⟨((eL tV p.d9)::(.unk::(.unk::((i p.is3)::((i p.is4)::((i p.is5)::((.ptr 0 0 0 0)::((b p.bs7)::((i s.is8)::(ra 48 [])))))))))),[⟨0,4,[[(i p.c9),(i p.c7),(i p.d7),(i p.g7)]],true,false,0⟩]⟩
noncomputable def ua0 {α:Type} (k:fa6→α) (e:Nat→α) (z:α) (p:la3) (s:fa6):α:=let t1:=(yb8 (⟨(⟨p.c9,p.c7,p.d7⟩:V3),p.g7⟩:Pln) (gL tV p.d9 s.is8.toNat));(sl (decide (s.is8 < (↑(List.length p.d9):Int))) (sl p.bs7 (sl (inB s.is8 (List.length p.d9)) (sl (yb9 (⟨(⟨p.c9,p.c7,p.d7⟩:V3),p.g7⟩:Pln) (gL tV p.d9 s.is8.toNat)) (sl (t1 != 0) (e 1) (k ⟨(W (s.is8+1))⟩)) z) z) (e 2)) (e 3))
noncomputable def pa8 (p:la3) (s:fa6):Stp fa6:=ua0 .next .exit .fail p s
noncomputable def zb0:Lo la3 fa6:=⟨En Ta2,0,ze6,[1,0,1,4,4,1,0,4,1,4,4,1,0,4,1,4,4,1,0,4,1,1,4,4],[0,3,4,5,6,7,8],.p,[⟨((.s (.c 3 (nL tV)))::((.s (.o .unk))::((.s (.o .unk))::((.s (.o (.int .i64)))::((.s (.o (.int .i64)))::((.s (.o (.int .i64)))::((.s (.o (.ptr 0 0 0 0)))::((.s (.o .bool))::((.s (.o (.int .i64)))::(ru2 48 [])))))))))),[⟨0,4,true,(some [[(.o (.int .i64)),(.o (.int .i64)),(.o (.int .i64)),(.o (.int .i64))]])⟩],fun a H=>(⟨(rL tV (slT a 0)),(toI (slT a 3)),(toI (slT a 4)),(toI (slT a 5)),(toB (slT a 7)),(toI (slT (rwT (elT H 0) 0) 0)),(toI (slT (rwT (elT H 0) 0) 1)),(toI (slT (rwT (elT H 0) 0) 2)),(toI (slT (rwT (elT H 0) 0) 3))⟩,⟨(toI (slT a 8))⟩)⟩],pa8,[(none,fun p s=>⟨[(b false)],[]⟩),(some 6,fun p s=>⟨((eL tV p.d9)::(.unk::(.unk::((i p.is3)::((i p.is4)::((i p.is5)::((.ptr 0 0 0 0)::((b p.bs7)::((i s.is8)::(ra 32 ((i s.is8)::((eL tV p.d9)::((i (↑(List.length p.d9):Int))::((b (decide (s.is8 < (↑(List.length p.d9):Int))))::((b true)::((b p.bs7)::((b p.bs7)::(ra 9 [])))))))))))))))))),[⟨0,4,[[(i p.c9),(i p.c7),(i p.d7),(i p.g7)]],true,false,0⟩]⟩),(some 6,fun p s=>⟨((eL tV p.d9)::(.unk::(.unk::((i p.is3)::((i p.is4)::((i p.is5)::((.ptr 0 0 0 0)::((b p.bs7)::((i s.is8)::(ra 32 ((i s.is8)::((eL tV p.d9)::((i (↑(List.length p.d9):Int))::((b (decide (s.is8 < (↑(List.length p.d9):Int))))::((b false)::(u::((b false)::(ra 9 [])))))))))))))))))),[⟨0,4,[[(i p.c9),(i p.c7),(i p.d7),(i p.g7)]],true,false,0⟩]⟩)],fd5⟩
theorem fd6:zb0.Ok:=Lo.ok [] (by kernel_rfl) .nil rfl (.cons (fun a H=>by kernel_rfl) .nil) fun p s=>(.of @ua0 (fun F _ _ _ _ _=>by unfold ua0;(repeat' apply k9 (f:=F))<;>rfl) (by kernel_rfl))
structure Ja3 where
 is3:Int
 is4:Int
structure fa7 where
 d9:List V3
 is5:Int
noncomputable def fd7 (p:Ja3) (s:fa7):St:=⟨((eL tV s.d9)::(.unk::(.unk::((i p.is3)::((i p.is4)::((i s.is5)::(ra 51 []))))))),[]⟩
noncomputable def ua1 {α:Type} (k:fa7→α) (e:Nat→α) (z:α) (p:Ja3) (s:fa7):α:=let t1:=(ha9 (gL tV s.d9 p.is3.toNat) (gL tV s.d9 p.is4.toNat) (gL tV s.d9 s.is5.toNat));let t2:=(lp (pa8 (⟨(rt tV s.d9),p.is3,p.is4,s.is5,t1.2,t1.1.n.x,t1.1.n.y,t1.1.n.z,t1.1.b⟩:la3)) (⟨0⟩:fa6));(sl (decide (s.is5 < p.is4)) (sl (inB p.is3 (List.length s.d9)) (sl (inB p.is4 (List.length s.d9)) (sl (inB s.is5 (List.length s.d9)) (sl (ia0 (gL tV s.d9 p.is3.toNat) (gL tV s.d9 p.is4.toNat) (gL tV s.d9 s.is5.toNat)) (sl ((cnE tV s.d9)&&true) (sl (Nat.beq t2.1 1) (e 1) (sl (Nat.beq t2.1 2) (k ⟨(rt tV s.d9),(W (s.is5+1))⟩) (sl (Nat.beq t2.1 3) (k ⟨(rt tV s.d9),(W (s.is5+1))⟩) z))) z) z) z) z) z) (e 2))
noncomputable def pa9 (p:Ja3) (s:fa7):Stp fa7:=ua1 .next .exit .fail p s
noncomputable def zb1:Lo Ja3 fa7:=⟨En Ta2,0,ze6,[1,0,1,4,4,1,0,4,1,4,4,1,0,4,1,4,4],[0,3,4,5],(.s .p (.s (.b (.s .p (.s .p (.b (.u zb0.ls))))) .p)),[⟨((.s (.c 3 (nL tV)))::((.s (.o .unk))::((.s (.o .unk))::((.s (.o (.int .i64)))::((.s (.o (.int .i64)))::((.s (.o (.int .i64)))::(ru2 51 []))))))),[],fun a H=>(⟨(toI (slT a 3)),(toI (slT a 4))⟩,⟨(rL tV (slT a 0)),(toI (slT a 5))⟩)⟩],pa9,[(none,fun p s=>⟨[(b false)],[]⟩),(some 4,fun p s=>⟨((eL tV s.d9)::(.unk::(.unk::((i p.is3)::((i p.is4)::((i s.is5)::(ra 14 ((i s.is5)::((i p.is4)::((b (decide (s.is5 < p.is4)))::(ra 34 []))))))))))),[]⟩)],fd7⟩
theorem fd8:zb1.Ok:=Lo.ok [zb0.pr] (by kernel_rfl) (.cons fd6 .nil) rfl (.cons (fun a H=>by kernel_rfl) .nil) fun p s=>(.of @ua1 (fun F _ _ _ _ _=>by unfold ua1;(repeat' apply k9 (f:=F))<;>rfl) (by kernel_rfl))
structure Ja4 where
 is3:Int
structure fa8 where
 d9:List V3
 is4:Int
noncomputable def fd9 (p:Ja4) (s:fa8):St:=⟨((eL tV s.d9)::(.unk::(.unk::((i p.is3)::((i s.is4)::(ra 52 [])))))),[]⟩
noncomputable def ua2 {α:Type} (k:fa8→α) (e:Nat→α) (z:α) (p:Ja4) (s:fa8):α:=let t1:=(lp (pa9 (⟨p.is3,s.is4⟩:Ja3)) (⟨(rt tV s.d9),0⟩:fa7));(sl (decide (s.is4 < p.is3)) (sl ((cnE tV s.d9)&&true) (sl (Nat.beq t1.1 1) (e 1) (sl (Nat.beq t1.1 2) (k ⟨t1.2.d9,(W (s.is4+1))⟩) z)) z) (e 2))
noncomputable def qa0 (p:Ja4) (s:fa8):Stp fa8:=ua2 .next .exit .fail p s
noncomputable def zb2:Lo Ja4 fa8:=⟨En Ta2,0,ze6,[1,0,1,4,4,1,0,4,1,4,4],[0,3,4],(.s .p (.s (.b (.s .p (.b (.u zb1.ls)))) .p)),[⟨((.s (.c 3 (nL tV)))::((.s (.o .unk))::((.s (.o .unk))::((.s (.o (.int .i64)))::((.s (.o (.int .i64)))::(ru2 52 [])))))),[],fun a H=>(⟨(toI (slT a 3))⟩,⟨(rL tV (slT a 0)),(toI (slT a 4))⟩)⟩],qa0,[(none,fun p s=>⟨[(b false)],[]⟩),(some 2,fun p s=>⟨((eL tV s.d9)::(.unk::(.unk::((i p.is3)::((i s.is4)::(ra 10 ((i s.is4)::((i p.is3)::((b (decide (s.is4 < p.is3)))::(ra 39 [])))))))))),[]⟩)],fd9⟩
theorem gd0:zb2.Ok:=Lo.ok [zb1.pr] (by kernel_rfl) (.cons fd8 .nil) rfl (.cons (fun a H=>by kernel_rfl) .nil) fun p s=>(.of @ua2 (fun F _ _ _ _ _=>by unfold ua2;(repeat' apply k9 (f:=F))<;>rfl) (by kernel_rfl))
structure Ja5 where
structure fa9 where
 d9:List V3
 is3:Int
noncomputable def gd1 (p:Ja5) (s:fa9):St:=⟨((eL tV s.d9)::(.unk::(.unk::((i s.is3)::(ra 53 []))))),[]⟩
noncomputable def ua3 {α:Type} (k:fa9→α) (e:Nat→α) (z:α) (p:Ja5) (s:fa9):α:=let t1:=(lp (qa0 (⟨s.is3⟩:Ja4)) (⟨(rt tV s.d9),0⟩:fa8));(sl (decide (s.is3 < (↑(List.length s.d9):Int))) (sl ((cnE tV s.d9)&&true) (sl (Nat.beq t1.1 1) (e 1) (sl (Nat.beq t1.1 2) (k ⟨t1.2.d9,(W (s.is3+1))⟩) z)) z) (e 2))
noncomputable def qa1 (p:Ja5) (s:fa9):Stp fa9:=ua3 .next .exit .fail p s
noncomputable def zb3:Lo Ja5 fa9:=⟨En Ta2,0,ze6,[1,0,1,4,4],[0,3],(.s .p (.s (.b (.s .p (.b (.u zb2.ls)))) .p)),[⟨((.s (.c 3 (nL tV)))::((.s (.o .unk))::((.s (.o .unk))::((.s (.o (.int .i64)))::(ru2 53 []))))),[],fun a H=>(⟨⟩,⟨(rL tV (slT a 0)),(toI (slT a 3))⟩)⟩],qa1,[(none,fun p s=>⟨[(b false)],[]⟩),(some 0,fun p s=>⟨((eL tV s.d9)::(.unk::(.unk::((i s.is3)::(ra 5 ((i s.is3)::((eL tV s.d9)::((i (↑(List.length s.d9):Int))::((b (decide (s.is3 < (↑(List.length s.d9):Int))))::(ra 44 [])))))))))),[]⟩)],gd1⟩
theorem gd2:zb3.Ok:=Lo.ok [zb2.pr] (by kernel_rfl) (.cons gd0 .nil) rfl (.cons (fun a H=>by kernel_rfl) .nil) fun p s=>(.of @ua3 (fun F _ _ _ _ _=>by unfold ua3;(repeat' apply k9 (f:=F))<;>rfl) (by kernel_rfl))
noncomputable def fb0 (x:List V3):Option (b7×List b8):=let t1:=(lp (qa1 (⟨⟩:Ja5)) (⟨(rt tV x),0⟩:fa9));(sl ((cnE tV x)&&true) (sl (Nat.beq t1.1 1) (some ((b false),[])) (sl (Nat.beq t1.1 2) (some ((b true),[])) none)) none)
noncomputable def fb1 (x:List V3):Bool:=C9 (one r1B) (fb0 x)
noncomputable def Pa2 (x:List V3):Bool:=okO (one r1B) (fb0 x)
noncomputable def Xb8:Sum:=Q5 (fa0 tV) (fun x=>.guard (Pa2 x) (.ret ((one r1B).enc (fb1 x),[])))
theorem xc4:g8 prog G 78 Xb8:=ya9 (bd b78 xd9) (one r1B) (o:=fb0) fun x=>sa8 (.s .p (.s (.s .p (.b (.u zb3.ls))) .p)) [zb3.pr] (by kernel_rfl) (.cons gd2 .nil) (by kernel_rfl)
noncomputable def gc1:List (Nat×Sum):=[(162,gc0),(78,Xb8)]
theorem gd3:i7 prog G gc1:=⟨pc2,xc4,trivial⟩
structure Aa8 where
 d9:List V3
structure T5 where
 is3:Int
noncomputable def Rc6 (p:Aa8) (s:T5):St:=⟨((eL tV p.d9)::(.unk::(.unk::((i s.is3)::(ra 17 []))))),[]⟩
noncomputable def na8 {α:Type} (k:T5→α) (e:Nat→α) (z:α) (p:Aa8) (s:T5):α:=let t1:=(Ta0 (gL tV p.d9 s.is3.toNat));(sl (decide (s.is3 < (↑(List.length p.d9):Int))) (sl (inB s.is3 (List.length p.d9)) (sl (Ta1 (gL tV p.d9 s.is3.toNat)) (sl (!t1) (e 1) (k ⟨(W (s.is3+1))⟩)) z) z) (e 2))
noncomputable def ua4 (p:Aa8) (s:T5):Stp T5:=na8 .next .exit .fail p s
noncomputable def ob6:Lo Aa8 T5:=⟨En gc1,0,Ye8,[1,1,0,1,4,4],[0,3],.p,[⟨((.s (.c 3 (nL tV)))::((.s (.o .unk))::((.s (.o .unk))::((.s (.o (.int .i64)))::(ru2 17 []))))),[],fun a H=>(⟨(rL tV (slT a 0))⟩,⟨(toI (slT a 3))⟩)⟩],ua4,[(none,fun p s=>⟨[(i 3)],[]⟩),(some 0,fun p s=>⟨((eL tV p.d9)::(.unk::(.unk::((i s.is3)::(ra 3 ((i s.is3)::((eL tV p.d9)::((i (↑(List.length p.d9):Int))::((b (decide (s.is3 < (↑(List.length p.d9):Int))))::(ra 10 [])))))))))),[]⟩)],Rc6⟩
theorem Rc7:ob6.Ok:=Lo.ok [] (by kernel_rfl) .nil rfl (.cons (fun a H=>by kernel_rfl) .nil) fun p s=>(.of @na8 (fun F _ _ _ _ _=>by unfold na8;(repeat' apply k9 (f:=F))<;>rfl) (by kernel_rfl))
noncomputable def Ta3 (x:List V3):Option (b7×List b8):=let t1:=(lp (ua4 (⟨(rt tV x)⟩:Aa8)) (⟨0⟩:T5));let t2:=(fb1 (rt tV (rt tV x)));(sl (decide ((↑(List.length x):Int) > 48)) (some ((i 2),[])) (sl ((cnE tV x)&&true) (sl (Nat.beq t1.1 1) (some ((i 3),[])) (sl (Nat.beq t1.1 2) (sl (okE tV (rt tV x)) (sl (Pa2 (rt tV (rt tV x))) (sl t2 (some ((i 11),[])) (some ((i 0),[]))) none) none) none)) none))
noncomputable def Ib7 (x:List V3):Int:=C9 (one r1I) (Ta3 x)
noncomputable def Ib8 (x:List V3):Bool:=okO (one r1I) (Ta3 x)
noncomputable def xc5:Sum:=Q5 (fa0 tV) (fun x=>.guard (Ib8 x) (.ret ((one r1I).enc (Ib7 x),[])))
theorem yd0:g8 prog G 125 xc5:=ya9 (bd Bf3 gd3) (one r1I) (o:=Ta3) fun x=>sa8 (.s .p (.s .p (.s (.s .p (.b (.u ob6.ls))) .p))) [ob6.pr] (by kernel_rfl) (.cons Rc7 .nil) (by kernel_rfl)
noncomputable def gc2:List (Nat×Sum):=[(135,Xb7)]
theorem gd4:i7 prog G gc2:=⟨xc3,trivial⟩
structure Aa9 where
 G4:List V3
 c9:Int
 c7:Int
 d7:Int
 g7:Int
structure T6 where
 is5:Int
noncomputable def Rc8 (p:Aa9) (s:T6):St:=⟨(.unk::((eL tV p.G4)::((.ptr 0 0 0 0)::(.unk::(.unk::((i s.is5)::(ra 13 []))))))),[⟨0,4,[[(i p.c9),(i p.c7),(i p.d7),(i p.g7)]],true,false,0⟩]⟩
noncomputable def na9 {α:Type} (k:T6→α) (e:Nat→α) (z:α) (p:Aa9) (s:T6):α:=let t1:=(yb8 (⟨(⟨p.c9,p.c7,p.d7⟩:V3),p.g7⟩:Pln) (gL tV p.G4 s.is5.toNat));(sl (decide (s.is5 < (↑(List.length p.G4):Int))) (sl (inB s.is5 (List.length p.G4)) (sl (yb9 (⟨(⟨p.c9,p.c7,p.d7⟩:V3),p.g7⟩:Pln) (gL tV p.G4 s.is5.toNat)) (sl (decide (t1 > 0)) (e 1) (k ⟨(W (s.is5+1))⟩)) z) z) (e 2))
noncomputable def ua5 (p:Aa9) (s:T6):Stp T6:=na9 .next .exit .fail p s
noncomputable def ob7:Lo Aa9 T6:=⟨En gc2,0,Ye9,[1,0,1,4,4],[1,2,5],.p,[⟨((.s (.o .unk))::((.s (.c 3 (nL tV)))::((.s (.o (.ptr 0 0 0 0)))::((.s (.o .unk))::((.s (.o .unk))::((.s (.o (.int .i64)))::(ru2 13 []))))))),[⟨0,4,true,(some [[(.o (.int .i64)),(.o (.int .i64)),(.o (.int .i64)),(.o (.int .i64))]])⟩],fun a H=>(⟨(rL tV (slT a 1)),(toI (slT (rwT (elT H 0) 0) 0)),(toI (slT (rwT (elT H 0) 0) 1)),(toI (slT (rwT (elT H 0) 0) 2)),(toI (slT (rwT (elT H 0) 0) 3))⟩,⟨(toI (slT a 5))⟩)⟩],ua5,[(none,fun p s=>⟨[(b false)],[]⟩),(some 0,fun p s=>⟨(.unk::((eL tV p.G4)::((.ptr 0 0 0 0)::(.unk::(.unk::((i s.is5)::((i s.is5)::((eL tV p.G4)::((i (↑(List.length p.G4):Int))::((b (decide (s.is5 < (↑(List.length p.G4):Int))))::(ra 9 []))))))))))),[⟨0,4,[[(i p.c9),(i p.c7),(i p.d7),(i p.g7)]],true,false,0⟩]⟩)],Rc8⟩
theorem Rc9:ob7.Ok:=Lo.ok [] (by kernel_rfl) .nil rfl (.cons (fun a H=>by kernel_rfl) .nil) fun p s=>(.of @na9 (fun F _ _ _ _ _=>by unfold na9;(repeat' apply k9 (f:=F))<;>rfl) (by kernel_rfl))
noncomputable def Ta4 (x:Pln) (y:List V3):Option (b7×List b8):=let t1:=(lp (ua5 (⟨(rt tV y),x.n.x,x.n.y,x.n.z,x.b⟩:Aa9)) (⟨0⟩:T6));(sl ((cnE tV y)&&true) (sl (Nat.beq t1.1 1) (some ((b false),[])) (sl (Nat.beq t1.1 2) (some ((b true),[])) none)) none)
noncomputable def Ta5 (x:Pln) (y:List V3):Bool:=C9 (one r1B) (Ta4 x y)
noncomputable def ga0 (x:Pln) (y:List V3):Bool:=okO (one r1B) (Ta4 x y)
noncomputable def xc6:Sum:=Z9 (B0 tP) (fa0 tV) (fun x y=>.guard (ga0 x y) (.ret ((one r1B).enc (Ta5 x y),[])))
theorem yd1:g8 prog G 126 xc6:=Ia3 (bd Bf4 gd4) (one r1B) (o:=Ta4) fun x y=>sa8 (.s .p (.s (.s .p (.b (.u ob7.ls))) .p)) [ob7.pr] (by kernel_rfl) (.cons Rc9 .nil) (by kernel_rfl)
noncomputable def Sc0:List (Nat×Sum):=[(182,Sb1)]
theorem Nd7:i7 prog G Sc0:=⟨Rc5,trivial⟩
structure Ta6 where
 d8:List Pln
 c9:Int
 c7:Int
 d7:Int
 g7:Int
structure ga1 where
 is5:Int
noncomputable def yd2 (p:Ta6) (s:ga1):St:=⟨((eL tP p.d8)::(.unk::(.unk::((.ptr 0 0 0 0)::(.unk::((i s.is5)::(ra 42 []))))))),[⟨0,4,[[(i p.c9),(i p.c7),(i p.d7),(i p.g7)]],true,false,0⟩]⟩
noncomputable def Ba0 {α:Type} (k:ga1→α) (e:Nat→α) (z:α) (p:Ta6) (s:ga1):α:=let t1:=(Aa7 (gL tP p.d8 s.is5.toNat) (⟨(⟨p.c9,p.c7,p.d7⟩:V3),p.g7⟩:Pln));(sl (decide (s.is5 < (↑(List.length p.d8):Int))) (sl (inB s.is5 (List.length p.d8)) (sl (ob5 (gL tP p.d8 s.is5.toNat) (⟨(⟨p.c9,p.c7,p.d7⟩:V3),p.g7⟩:Pln)) (sl (decide (t1 < 0)) (k ⟨(W (s.is5+1))⟩) (e 1)) z) z) (e 2))
noncomputable def xa5 (p:Ta6) (s:ga1):Stp ga1:=Ba0 .next .exit .fail p s
noncomputable def Ib9:Lo Ta6 ga1:=⟨En Sc0,0,Ze0,[1,1,0,4,4],[0,3,5],.p,[⟨((.s (.c 4 (nL tP)))::((.s (.o .unk))::((.s (.o .unk))::((.s (.o (.ptr 0 0 0 0)))::((.s (.o .unk))::((.s (.o (.int .i64)))::(ru2 42 []))))))),[⟨0,4,true,(some [[(.o (.int .i64)),(.o (.int .i64)),(.o (.int .i64)),(.o (.int .i64))]])⟩],fun a H=>(⟨(rL tP (slT a 0)),(toI (slT (rwT (elT H 0) 0) 0)),(toI (slT (rwT (elT H 0) 0) 1)),(toI (slT (rwT (elT H 0) 0) 2)),(toI (slT (rwT (elT H 0) 0) 3))⟩,⟨(toI (slT a 5))⟩)⟩],xa5,[(some 0,fun p s=>let t1:=(Aa7 (gL tP p.d8 s.is5.toNat) (⟨(⟨p.c9,p.c7,p.d7⟩:V3),p.g7⟩:Pln));⟨((eL tP p.d8)::(.unk::(.unk::((.ptr 0 0 0 0)::(.unk::((i s.is5)::(.unk::((i s.is5)::((eL tP p.d8)::((i (↑(List.length p.d8):Int))::((b (decide (s.is5 < (↑(List.length p.d8):Int))))::((b true)::((eL tP p.d8)::((i s.is5)::((.tptr [(i (gL tP p.d8 s.is5.toNat).n.x),(i (gL tP p.d8 s.is5.toNat).n.y),(i (gL tP p.d8 s.is5.toNat).n.z),(i (gL tP p.d8 s.is5.toNat).b)])::((.agg [(i (gL tP p.d8 s.is5.toNat).n.x),(i (gL tP p.d8 s.is5.toNat).n.y),(i (gL tP p.d8 s.is5.toNat).n.z),(i (gL tP p.d8 s.is5.toNat).b)])::((.agg [(i p.c9),(i p.c7),(i p.d7),(i p.g7)])::((i t1)::((b (decide (t1 < 0)))::((b (decide (t1 < 0)))::(ra 28 []))))))))))))))))))))),[⟨0,4,[[(i p.c9),(i p.c7),(i p.d7),(i p.g7)]],true,false,0⟩]⟩),(some 0,fun p s=>⟨((eL tP p.d8)::(.unk::(.unk::((.ptr 0 0 0 0)::(.unk::((i s.is5)::(.unk::((i s.is5)::((eL tP p.d8)::((i (↑(List.length p.d8):Int))::((b (decide (s.is5 < (↑(List.length p.d8):Int))))::((b false)::(u::(u::(u::(u::(u::(u::(u::((b false)::(ra 28 []))))))))))))))))))))),[⟨0,4,[[(i p.c9),(i p.c7),(i p.d7),(i p.g7)]],true,false,0⟩]⟩)],yd2⟩
theorem yd3:Ib9.Ok:=Lo.ok [] (by kernel_rfl) .nil rfl (.cons (fun a H=>by kernel_rfl) .nil) fun p s=>(.of @Ba0 (fun F _ _ _ _ _=>by unfold Ba0;(repeat' apply k9 (f:=F))<;>rfl) (by kernel_rfl))
noncomputable def tb0 (x:List Pln) (y:Pln):Option (b7×List b8):=let t1:=(lp (xa5 (⟨(rt tP x),y.n.x,y.n.y,y.n.z,y.b⟩:Ta6)) (⟨0⟩:ga1));let a0:=(m9 (fun k=>(fun k=>(tP).row (gL tP (rt tP x) k)) (0+k)) (List.range (t1.2.is5.toNat - 0)));let a1:=(m9 (fun k=>(fun k=>(tP).row (gL tP (rt tP x) k)) (t1.2.is5.toNat+k)) (List.range ((List.length (rt tP x)) - t1.2.is5.toNat)));let a2:=(inB t1.2.is5 ((List.length (rt tP x))+1));let a3:=(Nat.beq (0+(len a0)) (len (app [] a0))&&Nat.ble (((0+(len a0))+1)*32) room);let a4:=(((0+(len a0))+1)+(len a1));let a5:=(gL tP (rt tP x) t1.2.is5.toNat);let a6:=(Nat.beq 1 1&&Nat.ble ((1+(len a1))*32) room);let a7:=(Nat.beq 0 0&&Nat.ble ((0+(len a0))*32) room);(sl ((cnE tP x)&&true) (sl (Nat.beq t1.1 1) (sl (decide (t1.2.is5 < (↑(List.length (rt tP x)):Int))) (sl (inB t1.2.is5 (List.length (rt tP x))) (sl ((a5.n.x==y.n.x)&&((a5.n.y==y.n.y)&&((a5.n.z==y.n.z)&&((a5.b==y.b)&&true)))) (some ((eL tP (rt tP x)),[])) (sl a2 (sl (Nat.beq (len a0) 0) (sl a2 (sl (Nat.beq (len a1) 0) (some ((.sl 0 0 1 0),[⟨73,4,[[(i y.n.x),(i y.n.y),(i y.n.z),(i y.b)]],true,false,0⟩])) (sl a6 (some ((.sl 0 0 (1+(len a1)) 0),[⟨73,4,(app [[(i y.n.x),(i y.n.y),(i y.n.z),(i y.b)]] a1),true,false,0⟩])) none)) none) (sl a7 (sl a3 (sl a2 (sl (Nat.beq (len a1) 0) (some ((.sl 0 0 ((0+(len a0))+1) 0),[⟨73,4,(app (app [] a0) [[(i y.n.x),(i y.n.y),(i y.n.z),(i y.b)]]),true,false,0⟩])) (sl (Nat.beq ((0+(len a0))+1) (len (app (app [] a0) [[(i y.n.x),(i y.n.y),(i y.n.z),(i y.b)]]))&&Nat.ble (a4*32) room) (some ((.sl 0 0 a4 0),[⟨73,4,(app (app (app [] a0) [[(i y.n.x),(i y.n.y),(i y.n.z),(i y.b)]]) a1),true,false,0⟩])) none)) none) none) none)) none)) none) (sl a2 (sl (Nat.beq (len a0) 0) (sl a2 (sl (Nat.beq (len a1) 0) (some ((.sl 0 0 1 0),[⟨73,4,[[(i y.n.x),(i y.n.y),(i y.n.z),(i y.b)]],true,false,0⟩])) (sl a6 (some ((.sl 0 0 (1+(len a1)) 0),[⟨73,4,(app [[(i y.n.x),(i y.n.y),(i y.n.z),(i y.b)]] a1),true,false,0⟩])) none)) none) (sl a7 (sl a3 (sl a2 (sl (Nat.beq (len a1) 0) (some ((.sl 0 0 ((0+(len a0))+1) 0),[⟨73,4,(app (app [] a0) [[(i y.n.x),(i y.n.y),(i y.n.z),(i y.b)]]),true,false,0⟩])) (sl (Nat.beq ((0+(len a0))+1) (len (app (app [] a0) [[(i y.n.x),(i y.n.y),(i y.n.z),(i y.b)]]))&&Nat.ble (a4*32) room) (some ((.sl 0 0 a4 0),[⟨73,4,(app (app (app [] a0) [[(i y.n.x),(i y.n.y),(i y.n.z),(i y.b)]]) a1),true,false,0⟩])) none)) none) none) none)) none)) (sl (Nat.beq t1.1 2) (sl (decide (t1.2.is5 < (↑(List.length (rt tP x)):Int))) (sl (inB t1.2.is5 (List.length (rt tP x))) (sl ((a5.n.x==y.n.x)&&((a5.n.y==y.n.y)&&((a5.n.z==y.n.z)&&((a5.b==y.b)&&true)))) (some ((eL tP (rt tP x)),[])) (sl a2 (sl (Nat.beq (len a0) 0) (sl a2 (sl (Nat.beq (len a1) 0) (some ((.sl 0 0 1 0),[⟨73,4,[[(i y.n.x),(i y.n.y),(i y.n.z),(i y.b)]],true,false,0⟩])) (sl a6 (some ((.sl 0 0 (1+(len a1)) 0),[⟨73,4,(app [[(i y.n.x),(i y.n.y),(i y.n.z),(i y.b)]] a1),true,false,0⟩])) none)) none) (sl a7 (sl a3 (sl a2 (sl (Nat.beq (len a1) 0) (some ((.sl 0 0 ((0+(len a0))+1) 0),[⟨73,4,(app (app [] a0) [[(i y.n.x),(i y.n.y),(i y.n.z),(i y.b)]]),true,false,0⟩])) (sl (Nat.beq ((0+(len a0))+1) (len (app (app [] a0) [[(i y.n.x),(i y.n.y),(i y.n.z),(i y.b)]]))&&Nat.ble (a4*32) room) (some ((.sl 0 0 a4 0),[⟨73,4,(app (app (app [] a0) [[(i y.n.x),(i y.n.y),(i y.n.z),(i y.b)]]) a1),true,false,0⟩])) none)) none) none) none)) none)) none) (sl a2 (sl (Nat.beq (len a0) 0) (sl a2 (sl (Nat.beq (len a1) 0) (some ((.sl 0 0 1 0),[⟨73,4,[[(i y.n.x),(i y.n.y),(i y.n.z),(i y.b)]],true,false,0⟩])) (sl a6 (some ((.sl 0 0 (1+(len a1)) 0),[⟨73,4,(app [[(i y.n.x),(i y.n.y),(i y.n.z),(i y.b)]] a1),true,false,0⟩])) none)) none) (sl a7 (sl a3 (sl a2 (sl (Nat.beq (len a1) 0) (some ((.sl 0 0 ((0+(len a0))+1) 0),[⟨73,4,(app (app [] a0) [[(i y.n.x),(i y.n.y),(i y.n.z),(i y.b)]]),true,false,0⟩])) (sl (Nat.beq ((0+(len a0))+1) (len (app (app [] a0) [[(i y.n.x),(i y.n.y),(i y.n.z),(i y.b)]]))&&Nat.ble (a4*32) room) (some ((.sl 0 0 a4 0),[⟨73,4,(app (app (app [] a0) [[(i y.n.x),(i y.n.y),(i y.n.z),(i y.b)]]) a1),true,false,0⟩])) none)) none) none) none)) none)) none)) none)
noncomputable def G8 (x:List Pln) (y:Pln):List Pln:=C9 (one (r1L tP)) (tb0 x y)
noncomputable def qa2 (x:List Pln) (y:Pln):Bool:=okO (one (r1L tP)) (tb0 x y)
noncomputable def pd1:Sum:=Z9 (fa0 tP) (B0 tP) (fun x y=>.guard (qa2 x y) (.ret ((one (r1L tP)).enc (G8 x y),[])))
theorem Zd9:g8 prog G 127 pd1:=Ia3 (bd Bf5 Nd7) (one (r1L tP)) (o:=tb0) fun x y=>sa8 (.s .p (.s .p (.s (.b (.u Ib9.ls)) .p))) [Ib9.pr] (by kernel_rfl) (.cons yd3 .nil) (by kernel_rfl)
noncomputable def Ya9:List (Nat×Sum):=[(125,xc5),(107,Qa8),(126,xc6),(127,pd1),(73,Xb6)]
theorem gd5:i7 prog G Ya9:=⟨yd0,eb7,yd1,Zd9,xc2,trivial⟩
structure T7 where
 d9:List V3
 is6:Int
 is7:Int
structure C0 where
 ph:Nat
 is8:Int
 da2:List Pln
noncomputable def Bc7 (p:T7) (s:C0):St:=⟨((eL tV p.d9)::(ra 4 ((.v (.slice none 0 0))::((i p.is6)::((i p.is7)::((i s.is8)::(ra 56 []))))))),[]⟩
noncomputable def Bc8 (p:T7) (s:C0):St:=⟨((eL tV p.d9)::(ra 4 ((eL tP s.da2)::((i p.is6)::((i p.is7)::((i s.is8)::(ra 56 []))))))),[]⟩
noncomputable def Sc1 (p:T7) (s:C0):St:=(sel (Nat.beq s.ph 1) (Bc8 p s) (Bc7 p s))
noncomputable def Y4 {α:Type} (k:C0→α) (e:Nat→α) (z:α) (p:T7) (s:C0):α:=let t1:=(ha9 (gL tV p.d9 p.is6.toNat) (gL tV p.d9 p.is7.toNat) (gL tV p.d9 s.is8.toNat));let t2:=(Ta5 t1.1 (rt tV p.d9));let t3:=(G8 [] t1.1);let t4:=(yb7 t1.1);let t5:=(Ta5 t4 (rt tV p.d9));let t6:=(G8 (rt tP t3) t4);let t7:=(G8 [] t4);(sl (decide (s.is8 < p.is7)) (sl (inB p.is6 (List.length p.d9)) (sl (inB p.is7 (List.length p.d9)) (sl (inB s.is8 (List.length p.d9)) (sl (ia0 (gL tV p.d9 p.is6.toNat) (gL tV p.d9 p.is7.toNat) (gL tV p.d9 s.is8.toNat)) (sl (!t1.2) (k ⟨0,(W (s.is8+1)),[]⟩) (sl (okE tV p.d9) (sl (ga0 t1.1 (rt tV p.d9)) (sl t2 (sl (qa2 [] t1.1) (sl (okE tV p.d9) (sl (ga0 t4 (rt tV p.d9)) (sl t5 (sl (okE tP t3) (sl (qa2 (rt tP t3) t4) (k ⟨1,(W (s.is8+1)),t6⟩) z) z) (k ⟨1,(W (s.is8+1)),t3⟩)) z) z) z) (sl (okE tV p.d9) (sl (ga0 t4 (rt tV p.d9)) (sl t5 (sl (qa2 [] t4) (k ⟨1,(W (s.is8+1)),t7⟩) z) (k ⟨0,(W (s.is8+1)),[]⟩)) z) z)) z) z)) z) z) z) z) (e 1))
noncomputable def Y5 {α:Type} (k:C0→α) (e:Nat→α) (z:α) (p:T7) (s:C0):α:=let t1:=(ha9 (gL tV p.d9 p.is6.toNat) (gL tV p.d9 p.is7.toNat) (gL tV p.d9 s.is8.toNat));let t2:=(Ta5 t1.1 (rt tV p.d9));let t3:=(G8 (rt tP s.da2) t1.1);let t4:=(yb7 t1.1);let t5:=(Ta5 t4 (rt tV p.d9));let t6:=(G8 (rt tP t3) t4);let t7:=(G8 (rt tP s.da2) t4);(sl (decide (s.is8 < p.is7)) (sl (inB p.is6 (List.length p.d9)) (sl (inB p.is7 (List.length p.d9)) (sl (inB s.is8 (List.length p.d9)) (sl (ia0 (gL tV p.d9 p.is6.toNat) (gL tV p.d9 p.is7.toNat) (gL tV p.d9 s.is8.toNat)) (sl (!t1.2) (k ⟨1,(W (s.is8+1)),s.da2⟩) (sl (okE tV p.d9) (sl (ga0 t1.1 (rt tV p.d9)) (sl t2 (sl (okE tP s.da2) (sl (qa2 (rt tP s.da2) t1.1) (sl (okE tV p.d9) (sl (ga0 t4 (rt tV p.d9)) (sl t5 (sl (okE tP t3) (sl (qa2 (rt tP t3) t4) (k ⟨1,(W (s.is8+1)),t6⟩) z) z) (k ⟨1,(W (s.is8+1)),t3⟩)) z) z) z) z) (sl (okE tV p.d9) (sl (ga0 t4 (rt tV p.d9)) (sl t5 (sl (okE tP s.da2) (sl (qa2 (rt tP s.da2) t4) (k ⟨1,(W (s.is8+1)),t7⟩) z) z) (k ⟨1,(W (s.is8+1)),s.da2⟩)) z) z)) z) z)) z) z) z) z) (e 2))
noncomputable def ua6 (p:T7) (s:C0):Stp C0:=(sel (Nat.beq s.ph 1) (Y5 .next .exit .fail p s) (Y4 .next .exit .fail p s))
noncomputable def ob8:Lo T7 C0:=⟨En Ya9,0,Oe8,[1,1,1,1,0,1,4,4,1,0,4,1,4,4,1,0,4,1,4,4],[0,5,6,7,8],.p,[⟨((.s (.c 3 (nL tV)))::(ru2 4 ((.s (.o .nil))::((.s (.o (.int .i64)))::((.s (.o (.int .i64)))::((.s (.o (.int .i64)))::(ru2 56 []))))))),[],fun a H=>(⟨(rL tV (slT a 0)),(toI (slT a 6)),(toI (slT a 7))⟩,⟨0,(toI (slT a 8)),[]⟩)⟩,⟨((.s (.c 3 (nL tV)))::(ru2 4 ((.s (.c 4 (nL tP)))::((.s (.o (.int .i64)))::((.s (.o (.int .i64)))::((.s (.o (.int .i64)))::(ru2 56 []))))))),[],fun a H=>(⟨(rL tV (slT a 0)),(toI (slT a 6)),(toI (slT a 7))⟩,⟨1,(toI (slT a 8)),(rL tP (slT a 5))⟩)⟩],ua6,[(some 4,fun p s=>⟨((eL tV p.d9)::(ra 4 ((.v (.slice none 0 0))::((i p.is6)::((i p.is7)::((i s.is8)::(ra 18 ((i s.is8)::((i p.is7)::((b (decide (s.is8 < p.is7)))::(ra 35 []))))))))))),[]⟩),(some 4,fun p s=>⟨((eL tV p.d9)::(ra 4 ((eL tP s.da2)::((i p.is6)::((i p.is7)::((i s.is8)::(ra 18 ((i s.is8)::((i p.is7)::((b (decide (s.is8 < p.is7)))::(ra 35 []))))))))))),[]⟩)],Sc1⟩
theorem Sc2:ob8.Ok:=Lo.ok [] (by kernel_rfl) .nil rfl (.cons (fun a H=>by kernel_rfl) (.cons (fun a H=>by kernel_rfl) .nil)) fun p s=>(.sel (Nat.beq s.ph 1) (.of @Y5 (fun F _ _ _ _ _=>by unfold Y5;(repeat' apply k9 (f:=F))<;>rfl) (by kernel_rfl)) (.of @Y4 (fun F _ _ _ _ _=>by unfold Y4;(repeat' apply k9 (f:=F))<;>rfl) (by kernel_rfl)))
structure T8 where
 is6:Int
structure C3 where
 ph:Nat
 d9:List V3
 is7:Int
 da2:List Pln
noncomputable def Bc9 (p:T8) (s:C3):St:=⟨((eL tV s.d9)::(ra 4 ((.v (.slice none 0 0))::((i p.is6)::((i s.is7)::(ra 57 [])))))),[]⟩
noncomputable def Cc0 (p:T8) (s:C3):St:=⟨((eL tV s.d9)::(ra 4 ((eL tP s.da2)::((i p.is6)::((i s.is7)::(ra 57 [])))))),[]⟩
noncomputable def Sc3 (p:T8) (s:C3):St:=(sel (Nat.beq s.ph 1) (Cc0 p s) (Bc9 p s))
noncomputable def Y6 {α:Type} (k:C3→α) (e:Nat→α) (z:α) (p:T8) (s:C3):α:=let t1:=(lp (ua6 (⟨(rt tV s.d9),p.is6,s.is7⟩:T7)) (⟨0,0,[]⟩:C0));(sl (decide (s.is7 < p.is6)) (sl ((cnE tV s.d9)&&true) (sl (Nat.beq t1.1 1) (k ⟨0,(rt tV s.d9),(W (s.is7+1)),[]⟩) (sl (Nat.beq t1.1 2) (k ⟨1,(rt tV s.d9),(W (s.is7+1)),t1.2.da2⟩) z)) z) (e 1))
noncomputable def Y7 {α:Type} (k:C3→α) (e:Nat→α) (z:α) (p:T8) (s:C3):α:=let t1:=(lp (ua6 (⟨(rt tV s.d9),p.is6,s.is7⟩:T7)) (⟨1,0,(rt tP s.da2)⟩:C0));(sl (decide (s.is7 < p.is6)) (sl ((cnE tV s.d9)&&((cnE tP s.da2)&&true)) (sl (Nat.beq t1.1 1) (k ⟨0,(rt tV s.d9),(W (s.is7+1)),[]⟩) (sl (Nat.beq t1.1 2) (k ⟨1,(rt tV s.d9),(W (s.is7+1)),t1.2.da2⟩) z)) z) (e 2))
noncomputable def ua7 (p:T8) (s:C3):Stp C3:=(sel (Nat.beq s.ph 1) (Y7 .next .exit .fail p s) (Y6 .next .exit .fail p s))
noncomputable def ob9:Lo T8 C3:=⟨En Ya9,0,Oe8,[1,1,1,1,0,1,4,4,1,0,4,1,4,4],[0,5,6,7],(.s .p (.s (.b (.s .p (.b (.u ob8.ls)))) .p)),[⟨((.s (.c 3 (nL tV)))::(ru2 4 ((.s (.o .nil))::((.s (.o (.int .i64)))::((.s (.o (.int .i64)))::(ru2 57 [])))))),[],fun a H=>(⟨(toI (slT a 6))⟩,⟨0,(rL tV (slT a 0)),(toI (slT a 7)),[]⟩)⟩,⟨((.s (.c 3 (nL tV)))::(ru2 4 ((.s (.c 4 (nL tP)))::((.s (.o (.int .i64)))::((.s (.o (.int .i64)))::(ru2 57 [])))))),[],fun a H=>(⟨(toI (slT a 6))⟩,⟨1,(rL tV (slT a 0)),(toI (slT a 7)),(rL tP (slT a 5))⟩)⟩],ua7,[(some 2,fun p s=>⟨((eL tV s.d9)::(ra 4 ((.v (.slice none 0 0))::((i p.is6)::((i s.is7)::(ra 14 ((i s.is7)::((i p.is6)::((b (decide (s.is7 < p.is6)))::(ra 40 [])))))))))),[]⟩),(some 2,fun p s=>⟨((eL tV s.d9)::(ra 4 ((eL tP s.da2)::((i p.is6)::((i s.is7)::(ra 14 ((i s.is7)::((i p.is6)::((b (decide (s.is7 < p.is6)))::(ra 40 [])))))))))),[]⟩)],Sc3⟩
theorem Sc4:ob9.Ok:=Lo.ok [ob8.pr] (by kernel_rfl) (.cons Sc2 .nil) rfl (.cons (fun a H=>by kernel_rfl) (.cons (fun a H=>by kernel_rfl) .nil)) fun p s=>(.sel (Nat.beq s.ph 1) (.of @Y7 (fun F _ _ _ _ _=>by unfold Y7;(repeat' apply k9 (f:=F))<;>rfl) (by kernel_rfl)) (.of @Y6 (fun F _ _ _ _ _=>by unfold Y6;(repeat' apply k9 (f:=F))<;>rfl) (by kernel_rfl)))
structure ba3 where
structure F7 where
 ph:Nat
 d9:List V3
 is6:Int
 da2:List Pln
noncomputable def Cc1 (p:ba3) (s:F7):St:=⟨((eL tV s.d9)::(ra 4 ((.v (.slice none 0 0))::((i s.is6)::(ra 58 []))))),[]⟩
noncomputable def Cc2 (p:ba3) (s:F7):St:=⟨((eL tV s.d9)::(ra 4 ((eL tP s.da2)::((i s.is6)::(ra 58 []))))),[]⟩
noncomputable def Sc5 (p:ba3) (s:F7):St:=(sel (Nat.beq s.ph 1) (Cc2 p s) (Cc1 p s))
noncomputable def Y8 {α:Type} (k:F7→α) (e:Nat→α) (z:α) (p:ba3) (s:F7):α:=let t1:=(lp (ua7 (⟨s.is6⟩:T8)) (⟨0,(rt tV s.d9),0,[]⟩:C3));(sl (decide (s.is6 < (↑(List.length s.d9):Int))) (sl ((cnE tV s.d9)&&true) (sl (Nat.beq t1.1 1) (k ⟨0,t1.2.d9,(W (s.is6+1)),[]⟩) (sl (Nat.beq t1.1 2) (k ⟨1,t1.2.d9,(W (s.is6+1)),t1.2.da2⟩) z)) z) (e 1))
noncomputable def Y9 {α:Type} (k:F7→α) (e:Nat→α) (z:α) (p:ba3) (s:F7):α:=let t1:=(lp (ua7 (⟨s.is6⟩:T8)) (⟨1,(rt tV s.d9),0,(rt tP s.da2)⟩:C3));(sl (decide (s.is6 < (↑(List.length s.d9):Int))) (sl ((cnE tV s.d9)&&((cnE tP s.da2)&&true)) (sl (Nat.beq t1.1 1) (k ⟨0,t1.2.d9,(W (s.is6+1)),[]⟩) (sl (Nat.beq t1.1 2) (k ⟨1,t1.2.d9,(W (s.is6+1)),t1.2.da2⟩) z)) z) (e 2))
noncomputable def Ja6 (p:ba3) (s:F7):Stp F7:=(sel (Nat.beq s.ph 1) (Y9 .next .exit .fail p s) (Y8 .next .exit .fail p s))
noncomputable def pb0:Lo ba3 F7:=⟨En Ya9,0,Oe8,[1,1,1,1,0,1,4,4],[0,5,6],(.s .p (.s (.b (.s .p (.b (.u ob9.ls)))) .p)),[⟨((.s (.c 3 (nL tV)))::(ru2 4 ((.s (.o .nil))::((.s (.o (.int .i64)))::(ru2 58 []))))),[],fun a H=>(⟨⟩,⟨0,(rL tV (slT a 0)),(toI (slT a 6)),[]⟩)⟩,⟨((.s (.c 3 (nL tV)))::(ru2 4 ((.s (.c 4 (nL tP)))::((.s (.o (.int .i64)))::(ru2 58 []))))),[],fun a H=>(⟨⟩,⟨1,(rL tV (slT a 0)),(toI (slT a 6)),(rL tP (slT a 5))⟩)⟩],Ja6,[(some 0,fun p s=>⟨((eL tV s.d9)::(ra 4 ((.v (.slice none 0 0))::((i s.is6)::(ra 9 ((i s.is6)::((eL tV s.d9)::((i (↑(List.length s.d9):Int))::((b (decide (s.is6 < (↑(List.length s.d9):Int))))::(ra 45 [])))))))))),[]⟩),(some 0,fun p s=>⟨((eL tV s.d9)::(ra 4 ((eL tP s.da2)::((i s.is6)::(ra 9 ((i s.is6)::((eL tV s.d9)::((i (↑(List.length s.d9):Int))::((b (decide (s.is6 < (↑(List.length s.d9):Int))))::(ra 45 [])))))))))),[]⟩)],Sc5⟩
theorem Sc6:pb0.Ok:=Lo.ok [ob9.pr] (by kernel_rfl) (.cons Sc4 .nil) rfl (.cons (fun a H=>by kernel_rfl) (.cons (fun a H=>by kernel_rfl) .nil)) fun p s=>(.sel (Nat.beq s.ph 1) (.of @Y9 (fun F _ _ _ _ _=>by unfold Y9;(repeat' apply k9 (f:=F))<;>rfl) (by kernel_rfl)) (.of @Y8 (fun F _ _ _ _ _=>by unfold Y8;(repeat' apply k9 (f:=F))<;>rfl) (by kernel_rfl)))
noncomputable def Ta7 (x:List V3):Option (b7×List b8):=let t1:=(Ib7 (rt tV x));let t2:=(lp (Ja6 (⟨⟩:ba3)) (⟨0,(rt tV x),0,[]⟩:F7));(sl (okE tV x) (sl (Ib8 (rt tV x)) (sl (t1 != 0) (some ((.tup [(.v (.slice none 0 0)),(i t1)]),[])) (sl ((cnE tV x)&&true) (sl (Nat.beq t2.1 1) (some ((.tup [(.v (.slice none 0 0)),(i 0)]),[])) (sl (Nat.beq t2.1 2) (some ((.tup [(eL tP t2.2.da2),(i 0)]),[])) none)) none)) none) none)
noncomputable def lb6 (x:List V3):List Pln×Int:=C9 (two (r1L tP) r1I) (Ta7 x)
noncomputable def Ga3 (x:List V3):Bool:=okO (two (r1L tP) r1I) (Ta7 x)
noncomputable def xc7:Sum:=Q5 (fa0 tV) (fun x=>.guard (Ga3 x) (.ret ((two (r1L tP) r1I).enc (lb6 x),[])))
theorem yd4:g8 prog G 71 xc7:=ya9 (bd b71 gd5) (two (r1L tP) r1I) (o:=Ta7) fun x=>sa8 (.s .p (.s .p (.s .p (.s .p (.s (.s .p (.b (.u pb0.ls))) .p))))) [pb0.pr] (by kernel_rfl) (.cons Sc6 .nil) (by kernel_rfl)
noncomputable def Sb2:List (Nat×Sum):=[(68,na6),(78,Xb8)]
theorem Sc7:i7 prog G Sb2:=⟨xa4,xc4,trivial⟩
structure U5 where
 is4:Int
structure w9 where
 ph:Nat
 is6:Int
 i4:List Int
 c7:Int
 ns5:Nat
 eh1:List (List b7)
noncomputable def pc6 (p:U5) (s:w9):St:=⟨(ra 3 ((.ptr 0 0 0 0)::((i p.is4)::((.v (.slice none 0 0))::((i s.is6)::(ra 127 [])))))),[⟨0,2,[[(eL tI s.i4),(i s.c7)]],true,false,0⟩]⟩
noncomputable def pc7 (p:U5) (s:w9):St:=⟨(ra 3 ((.ptr 0 0 0 0)::((i p.is4)::((.sl 1 0 s.ns5 0)::((i s.is6)::(ra 127 [])))))),[⟨0,2,[[(eL tI s.i4),(i s.c7)]],true,false,0⟩,⟨27,3,s.eh1,true,false,0⟩]⟩
noncomputable def Cc3 (p:U5) (s:w9):St:=(sel (Nat.beq s.ph 1) (pc7 p s) (pc6 p s))
noncomputable def ka6 {α:Type} (k:w9→α) (e:Nat→α) (z:α) (p:U5) (s:w9):α:=let t1:=(j8 ⟨17,(rt tI s.i4),s.c7⟩);let t2:=(j8 ⟨17,(rt tI (rt tI s.i4)),t1.c7⟩);let t3:=(j8 ⟨17,(rt tI (rt tI (rt tI s.i4))),t2.c7⟩);let t4:=(j8 ⟨6,(rt tI (rt tI (rt tI (rt tI s.i4)))),t3.c7⟩);(sl (decide (s.is6 < p.is4)) (sl ((cnE tI s.i4)&&true) (sl (Nat.beq t1.alt 1) (sl ((cnE tI (rt tI s.i4))&&true) (sl (Nat.beq t2.alt 1) (sl ((cnE tI (rt tI (rt tI s.i4)))&&true) (sl (Nat.beq t3.alt 1) (sl ((cnE tI (rt tI (rt tI (rt tI s.i4))))&&true) (sl (Nat.beq t4.alt 1) (sl (t4.is0==1) (sl (decide (s.is6 > 1)) z (sl (t4.is0==2) (sl (decide (s.is6 > 0)) z (sl (t4.is0==3) (sl (decide (s.is6 > 2)) z (k ⟨1,(W (s.is6+1)),(rt tI (rt tI (rt tI (rt tI s.i4)))),t4.c7,1,[[(i (W (t1.is0 - 8))),(i (W (t2.is0 - 8))),(i (W (t3.is0 - 8)))]]⟩)) (k ⟨1,(W (s.is6+1)),(rt tI (rt tI (rt tI (rt tI s.i4)))),t4.c7,1,[[(i (W (t1.is0 - 8))),(i (W (t2.is0 - 8))),(i (W (t3.is0 - 8)))]]⟩))) (sl (t4.is0==3) (sl (decide (s.is6 > 2)) z (k ⟨1,(W (s.is6+1)),(rt tI (rt tI (rt tI (rt tI s.i4)))),t4.c7,1,[[(i (W (t1.is0 - 8))),(i (W (t2.is0 - 8))),(i (W (t3.is0 - 8)))]]⟩)) (k ⟨1,(W (s.is6+1)),(rt tI (rt tI (rt tI (rt tI s.i4)))),t4.c7,1,[[(i (W (t1.is0 - 8))),(i (W (t2.is0 - 8))),(i (W (t3.is0 - 8)))]]⟩)))) (sl (t4.is0==2) (sl (decide (s.is6 > 0)) z (sl (t4.is0==3) (sl (decide (s.is6 > 2)) z (k ⟨1,(W (s.is6+1)),(rt tI (rt tI (rt tI (rt tI s.i4)))),t4.c7,1,[[(i (W (t1.is0 - 8))),(i (W (t2.is0 - 8))),(i (W (t3.is0 - 8)))]]⟩)) (k ⟨1,(W (s.is6+1)),(rt tI (rt tI (rt tI (rt tI s.i4)))),t4.c7,1,[[(i (W (t1.is0 - 8))),(i (W (t2.is0 - 8))),(i (W (t3.is0 - 8)))]]⟩))) (sl (t4.is0==3) (sl (decide (s.is6 > 2)) z (k ⟨1,(W (s.is6+1)),(rt tI (rt tI (rt tI (rt tI s.i4)))),t4.c7,1,[[(i (W (t1.is0 - 8))),(i (W (t2.is0 - 8))),(i (W (t3.is0 - 8)))]]⟩)) (k ⟨1,(W (s.is6+1)),(rt tI (rt tI (rt tI (rt tI s.i4)))),t4.c7,1,[[(i (W (t1.is0 - 8))),(i (W (t2.is0 - 8))),(i (W (t3.is0 - 8)))]]⟩)))) z) z) z) z) z) z) z) z) (e 1))
noncomputable def G9 {α:Type} (k:w9→α) (e:Nat→α) (z:α) (p:U5) (s:w9):α:=let t1:=(j8 ⟨17,(rt tI s.i4),s.c7⟩);let a0:=(i6 s.eh1 (0+(W (s.is6 - 1)).toNat));let a1:=(Nat.beq s.ns5 (len s.eh1)&&Nat.ble ((s.ns5+1)*24) room);let a3:=(g9 (i6 s.eh1 (0+(W (s.is6 - 2)).toNat)) 0);let a4:=((Nat.blt (0+(W (s.is6 - 1)).toNat) (len s.eh1))&&(Nat.ble (2+1) (len a0)));let a5:=(i (W (Int.tdiv (W ((toI (hdA (tlA (g9 a0 0))))+(toI (hdA (tlA a3))))) 2)));let a6:=(i (W (Int.tdiv (W ((toI (hdA (g9 a0 0)))+(toI (hdA a3)))) 2)));let a7:=(app s.eh1 [[a6,a5,(i (W (Int.tdiv (W ((toI (hdA (tlA (tlA (g9 a0 0)))))+(toI (hdA (tlA (tlA a3)))))) 2)))]]);let a8:=(inB (W (s.is6 - 1)) s.ns5);let a9:=(i (toI (hdA (tlA (g9 a0 0)))));let a10:=((Nat.blt (0+(W (s.is6 - 1)).toNat) (len s.eh1))&&(Nat.ble (0+3) (len a0)));let a11:=(i (toI (hdA (g9 a0 0))));let a12:=(app s.eh1 [[a11,a9,(i (toI (hdA (tlA (tlA (g9 a0 0))))))]]);let a13:=(i (toI (hdA (g9 a0 2))));let a14:=(rt tI (rt tI s.i4));let t2:=(j8 ⟨17,a14,t1.c7⟩);let t3:=(j8 ⟨17,(rt tI a14),t2.c7⟩);let a2:=(rt tI (rt tI a14));let t4:=(j8 ⟨6,a2,t3.c7⟩);(sl (decide (s.is6 < p.is4)) (sl ((cnE tI s.i4)&&true) (sl (Nat.beq t1.alt 1) (sl ((cnE tI (rt tI s.i4))&&true) (sl (Nat.beq t2.alt 1) (sl ((cnE tI a14)&&true) (sl (Nat.beq t3.alt 1) (sl ((cnE tI (rt tI a14))&&true) (sl (Nat.beq t4.alt 1) (sl (t4.is0==1) (sl (decide (s.is6 > 1)) (sl a8 (sl (a10&&(L9 [(CK.int .i64),(CK.int .i64),(CK.int .i64)] (g9 a0 0))) (sl (inB (W (s.is6 - 2)) s.ns5) (sl (((Nat.blt (0+(W (s.is6 - 2)).toNat) (len s.eh1))&&(Nat.ble (0+3) (len (i6 s.eh1 (0+(W (s.is6 - 2)).toNat)))))&&(L9 [(CK.int .i64),(CK.int .i64),(CK.int .i64)] a3)) (sl (t4.is0==2) (sl (decide (s.is6 > 0)) (sl a8 (sl (a10&&(L9 [(CK.int .i64),(CK.int .i64),(CK.int .i64)] (g9 a0 0))) (sl (t4.is0==3) (sl (decide (s.is6 > 2)) (sl a8 (sl (a4&&(L9 [(CK.int .i64)] (g9 a0 2))) (sl a1 (k ⟨1,(W (s.is6+1)),a2,t4.c7,(s.ns5+1),(app s.eh1 [[a11,a9,a13]])⟩) z) z) z) (sl a1 (k ⟨1,(W (s.is6+1)),a2,t4.c7,(s.ns5+1),a12⟩) z)) (sl a1 (k ⟨1,(W (s.is6+1)),a2,t4.c7,(s.ns5+1),a12⟩) z)) z) z) (sl (t4.is0==3) (sl (decide (s.is6 > 2)) (sl a8 (sl (a4&&(L9 [(CK.int .i64)] (g9 a0 2))) (sl a1 (k ⟨1,(W (s.is6+1)),a2,t4.c7,(s.ns5+1),(app s.eh1 [[a6,a5,a13]])⟩) z) z) z) (sl a1 (k ⟨1,(W (s.is6+1)),a2,t4.c7,(s.ns5+1),a7⟩) z)) (sl a1 (k ⟨1,(W (s.is6+1)),a2,t4.c7,(s.ns5+1),a7⟩) z))) (sl (t4.is0==3) (sl (decide (s.is6 > 2)) (sl a8 (sl (a4&&(L9 [(CK.int .i64)] (g9 a0 2))) (sl a1 (k ⟨1,(W (s.is6+1)),a2,t4.c7,(s.ns5+1),(app s.eh1 [[a6,a5,a13]])⟩) z) z) z) (sl a1 (k ⟨1,(W (s.is6+1)),a2,t4.c7,(s.ns5+1),a7⟩) z)) (sl a1 (k ⟨1,(W (s.is6+1)),a2,t4.c7,(s.ns5+1),a7⟩) z))) z) z) z) z) (sl (t4.is0==2) (sl (decide (s.is6 > 0)) (sl a8 (sl (a10&&(L9 [(CK.int .i64),(CK.int .i64),(CK.int .i64)] (g9 a0 0))) (sl (t4.is0==3) (sl (decide (s.is6 > 2)) (sl a8 (sl (a4&&(L9 [(CK.int .i64)] (g9 a0 2))) (sl a1 (k ⟨1,(W (s.is6+1)),a2,t4.c7,(s.ns5+1),(app s.eh1 [[a11,a9,a13]])⟩) z) z) z) (sl a1 (k ⟨1,(W (s.is6+1)),a2,t4.c7,(s.ns5+1),a12⟩) z)) (sl a1 (k ⟨1,(W (s.is6+1)),a2,t4.c7,(s.ns5+1),a12⟩) z)) z) z) (sl (t4.is0==3) (sl (decide (s.is6 > 2)) (sl a8 (sl (a4&&(L9 [(CK.int .i64)] (g9 a0 2))) (sl a1 (k ⟨1,(W (s.is6+1)),a2,t4.c7,(s.ns5+1),(app s.eh1 [[(i (W (t1.is0 - 8))),(i (W (t2.is0 - 8))),a13]])⟩) z) z) z) (sl a1 (k ⟨1,(W (s.is6+1)),a2,t4.c7,(s.ns5+1),(app s.eh1 [[(i (W (t1.is0 - 8))),(i (W (t2.is0 - 8))),(i (W (t3.is0 - 8)))]])⟩) z)) (sl a1 (k ⟨1,(W (s.is6+1)),a2,t4.c7,(s.ns5+1),(app s.eh1 [[(i (W (t1.is0 - 8))),(i (W (t2.is0 - 8))),(i (W (t3.is0 - 8)))]])⟩) z))) (sl (t4.is0==3) (sl (decide (s.is6 > 2)) (sl a8 (sl (a4&&(L9 [(CK.int .i64)] (g9 a0 2))) (sl a1 (k ⟨1,(W (s.is6+1)),a2,t4.c7,(s.ns5+1),(app s.eh1 [[(i (W (t1.is0 - 8))),(i (W (t2.is0 - 8))),a13]])⟩) z) z) z) (sl a1 (k ⟨1,(W (s.is6+1)),a2,t4.c7,(s.ns5+1),(app s.eh1 [[(i (W (t1.is0 - 8))),(i (W (t2.is0 - 8))),(i (W (t3.is0 - 8)))]])⟩) z)) (sl a1 (k ⟨1,(W (s.is6+1)),a2,t4.c7,(s.ns5+1),(app s.eh1 [[(i (W (t1.is0 - 8))),(i (W (t2.is0 - 8))),(i (W (t3.is0 - 8)))]])⟩) z)))) (sl (t4.is0==2) (sl (decide (s.is6 > 0)) (sl a8 (sl (a10&&(L9 [(CK.int .i64),(CK.int .i64),(CK.int .i64)] (g9 a0 0))) (sl (t4.is0==3) (sl (decide (s.is6 > 2)) (sl a8 (sl (a4&&(L9 [(CK.int .i64)] (g9 a0 2))) (sl a1 (k ⟨1,(W (s.is6+1)),a2,t4.c7,(s.ns5+1),(app s.eh1 [[a11,a9,a13]])⟩) z) z) z) (sl a1 (k ⟨1,(W (s.is6+1)),a2,t4.c7,(s.ns5+1),a12⟩) z)) (sl a1 (k ⟨1,(W (s.is6+1)),a2,t4.c7,(s.ns5+1),a12⟩) z)) z) z) (sl (t4.is0==3) (sl (decide (s.is6 > 2)) (sl a8 (sl (a4&&(L9 [(CK.int .i64)] (g9 a0 2))) (sl a1 (k ⟨1,(W (s.is6+1)),a2,t4.c7,(s.ns5+1),(app s.eh1 [[(i (W (t1.is0 - 8))),(i (W (t2.is0 - 8))),a13]])⟩) z) z) z) (sl a1 (k ⟨1,(W (s.is6+1)),a2,t4.c7,(s.ns5+1),(app s.eh1 [[(i (W (t1.is0 - 8))),(i (W (t2.is0 - 8))),(i (W (t3.is0 - 8)))]])⟩) z)) (sl a1 (k ⟨1,(W (s.is6+1)),a2,t4.c7,(s.ns5+1),(app s.eh1 [[(i (W (t1.is0 - 8))),(i (W (t2.is0 - 8))),(i (W (t3.is0 - 8)))]])⟩) z))) (sl (t4.is0==3) (sl (decide (s.is6 > 2)) (sl a8 (sl (a4&&(L9 [(CK.int .i64)] (g9 a0 2))) (sl a1 (k ⟨1,(W (s.is6+1)),a2,t4.c7,(s.ns5+1),(app s.eh1 [[(i (W (t1.is0 - 8))),(i (W (t2.is0 - 8))),a13]])⟩) z) z) z) (sl a1 (k ⟨1,(W (s.is6+1)),a2,t4.c7,(s.ns5+1),(app s.eh1 [[(i (W (t1.is0 - 8))),(i (W (t2.is0 - 8))),(i (W (t3.is0 - 8)))]])⟩) z)) (sl a1 (k ⟨1,(W (s.is6+1)),a2,t4.c7,(s.ns5+1),(app s.eh1 [[(i (W (t1.is0 - 8))),(i (W (t2.is0 - 8))),(i (W (t3.is0 - 8)))]])⟩) z)))) z) z) z) z) z) z) z) z) (e 2))
noncomputable def Da1 (p:U5) (s:w9):Stp w9:=(sel (Nat.beq s.ph 1) (G9 .next .exit .fail p s) (ka6 .next .exit .fail p s))
noncomputable def fb2:Lo U5 w9:=⟨En Sb2,0,of9,[1,1,1,1,0,1,4,4],[3,4,5,6],.p,[⟨(ru2 3 ((.s (.o (.ptr 0 0 0 0)))::((.s (.o (.int .i64)))::((.s (.o .nil))::((.s (.o (.int .i64)))::(ru2 127 [])))))),[⟨0,2,true,(some [[(.c 1 (nL tI)),(.o (.int .i64))]])⟩],fun a H=>(⟨(toI (slT a 4))⟩,⟨0,(toI (slT a 6)),(rL tI (slT (rwT (elT H 0) 0) 0)),(toI (slT (rwT (elT H 0) 0) 1)),0,[]⟩)⟩,⟨(ru2 3 ((.s (.o (.ptr 0 0 0 0)))::((.s (.o (.int .i64)))::((.s (.o (.sl 1 0 (some 0) none)))::((.s (.o (.int .i64)))::(ru2 127 [])))))),[⟨0,2,true,(some [[(.c 1 (nL tI)),(.o (.int .i64))]])⟩,⟨27,3,true,none⟩],fun a H=>(⟨(toI (slT a 4))⟩,⟨1,(toI (slT a 6)),(rL tI (slT (rwT (elT H 0) 0) 0)),(toI (slT (rwT (elT H 0) 0) 1)),(slN (slT a 5)),(elT H 1)⟩)⟩],Da1,[(some 0,fun p s=>⟨(ra 3 ((.ptr 0 0 0 0)::((i p.is4)::((.v (.slice none 0 0))::((i s.is6)::(ra 11 ((i s.is6)::((i p.is4)::((b (decide (s.is6 < p.is4)))::(ra 113 [])))))))))),[⟨0,2,[[(eL tI s.i4),(i s.c7)]],true,false,0⟩]⟩),(some 0,fun p s=>⟨(ra 3 ((.ptr 0 0 0 0)::((i p.is4)::((.sl 1 0 s.ns5 0)::((i s.is6)::(ra 11 ((i s.is6)::((i p.is4)::((b (decide (s.is6 < p.is4)))::(ra 113 [])))))))))),[⟨0,2,[[(eL tI s.i4),(i s.c7)]],true,false,0⟩,⟨27,3,s.eh1,true,false,0⟩]⟩)],Cc3⟩
theorem Cc4:fb2.Ok:=Lo.ok [] (by kernel_rfl) .nil rfl (.cons (fun a H=>by kernel_rfl) (.cons (fun a H=>by kernel_rfl) .nil)) fun p s=>(.sel (Nat.beq s.ph 1) (.of @G9 (fun F _ _ _ _ _=>by unfold G9;(repeat' apply k9 (f:=F))<;>rfl) (by kernel_rfl)) (.of @ka6 (fun F _ _ _ _ _=>by unfold ka6;(repeat' apply k9 (f:=F))<;>rfl) (by kernel_rfl)))
noncomputable def Ja7 (x:List Int):Option (b7×List b8):=let t1:=(j8 ⟨5,(rt tI x),0⟩);let t2:=(lp (Da1 (⟨(W (4+t1.is0))⟩:U5)) (⟨0,0,(rt tI (rt tI x)),t1.c7,0,[]⟩:w9));let t3:=(fb1 []);let t4:=(fb1 (lsL tV t2.2.ns5 (fun k=>i6 t2.2.eh1 (0+k))));let a0:=(g9 (i6 t2.2.eh1 0) 0);let a1:=(i (toI (hdA (tlA (tlA a0)))));let a2:=(i (W ((toI (hdA a0)) - 3)));let a3:=(setAt t2.2.eh1 1 (J1 (i6 t2.2.eh1 1) 0 [a2,(i (toI (hdA (tlA a0)))),a1]));let a4:=(i (W ((toI (hdA (tlA a0))) - 2)));(sl ((cnE tI x)&&true) (sl (Nat.beq t1.alt 1) (sl ((cnE tI (rt tI x))&&true) (sl (Nat.beq t2.1 1) (sl (Pa2 []) (sl t3 none (some ((.v (.slice none 0 0)),[]))) none) (sl (Nat.beq t2.1 2) (sl (okL tV t2.2.ns5 (fun k=>i6 t2.2.eh1 (0+k))) (sl (Pa2 (lsL tV t2.2.ns5 (fun k=>i6 t2.2.eh1 (0+k)))) (sl t4 (sl (inB 0 t2.2.ns5) (sl (((Nat.blt 0 (len t2.2.eh1))&&(Nat.ble (0+3) (len (i6 t2.2.eh1 0))))&&(L9 [(CK.int .i64),(CK.int .i64),(CK.int .i64)] a0)) (sl (inB 1 t2.2.ns5) (sl ((Nat.blt 1 (len t2.2.eh1))&&(Nat.ble (0+3) (len (i6 t2.2.eh1 1)))) (sl (inB 2 t2.2.ns5) (sl ((Nat.blt 2 (len a3))&&(Nat.ble (0+3) (len (i6 a3 2)))) (sl (inB 3 t2.2.ns5) (sl ((Nat.blt 3 (len (setAt a3 2 (J1 (i6 a3 2) 0 [(i (toI (hdA a0))),a4,a1]))))&&(Nat.ble (0+3) (len (i6 (setAt a3 2 (J1 (i6 a3 2) 0 [(i (toI (hdA a0))),a4,a1])) 3)))) (some ((.sl 0 0 t2.2.ns5 0),[⟨27,3,(setAt (setAt a3 2 (J1 (i6 a3 2) 0 [(i (toI (hdA a0))),a4,a1])) 3 (J1 (i6 (setAt a3 2 (J1 (i6 a3 2) 0 [(i (toI (hdA a0))),a4,a1])) 3) 0 [(i (toI (hdA a0))),(i (toI (hdA (tlA a0)))),(i (W ((toI (hdA (tlA (tlA a0)))) - 1)))])),true,false,0⟩])) none) none) none) none) none) none) none) none) (some ((.sl 0 0 t2.2.ns5 0),[⟨27,3,t2.2.eh1,true,false,0⟩]))) none) none) none)) none) none) none)
noncomputable def la4 (x:List Int):List V3:=C9 (one (r1L tV)) (Ja7 x)
noncomputable def Ja8 (x:List Int):Bool:=okO (one (r1L tV)) (Ja7 x)
noncomputable def gc3:Sum:=Q5 (fa0 tI) (fun x=>.guard (Ja8 x) (.ret ((one (r1L tV)).enc (la4 x),[])))
theorem gd6:g8 prog G 25 gc3:=ya9 (bd b25 Sc7) (one (r1L tV)) (o:=Ja7) fun x=>sa8 (.s .p (.s .p (.s .p (.s .p (.s (.s .p (.b (.u fb2.ls))) .p))))) [fb2.pr] (by kernel_rfl) (.cons Cc4 .nil) (by kernel_rfl)
end Go.Ev.Ce
end
section
namespace Go.Ev.Ce
open Go Go.Ev Go.Ev.L Go.Proofs
set_option maxRecDepth 100000
noncomputable def Nd8:List (Nat×Sum):=[(68,na6),(69,pc0),(63,oc5),(51,Rc4),(70,Qc3),(25,gc3),(71,xc7)]
theorem yd5:i7 prog G Nd8:=⟨xa4,Rc0,Qc1,Nd3,Md4,gd6,yd4,trivial⟩
noncomputable def fb3 (x:List Int):Option (b7×List b8):=let t1:=(j8 ⟨4,(rt tI x),0⟩);let t2:=(Pa1 ⟨6,(rt tI (rt tI x)),t1.c7⟩);let t3:=(j8 ⟨6,(rt tI t2.i4),t2.c7⟩);let t4:=(j8 ⟨6,(rt tI (rt tI t2.i4)),t3.c7⟩);let t5:=(j8 ⟨6,(rt tI (rt tI (rt tI t2.i4))),t4.c7⟩);let t6:=(sb2 (⟨t2.O8,t2.O9,t2.P0⟩:V3) (⟨(W ((W (t2.O8+1))+t3.is0)),(W ((W (t2.O9+1))+t4.is0)),(W ((W (t2.P0+1))+t5.is0))⟩:V3));let a0:=(if 7 < (↑(List.length x):Int) then 7 else (↑(List.length x):Int));let a1:=(m9 (fun k=>(tP).row (gL tP t6 k)) (List.range (List.length t6)));let a2:=(fun k=>(fun k=>(tI).row (gL tI x k)) (a0.toNat+k));let a3:=((List.length x) - a0.toNat);let t7:=(Rc3 (lsL tI a3 a2));let t8:=(Wb9 [t7]);let t9:=(la4 (lsL tI a3 a2));let t10:=(lb6 (rt tV t9));let t11:=(Wb9 (slR tP (app (app [] a1) [[(i t7.n.x),(i t7.n.y),(i t7.n.z),(i t7.b)]]) 0 ((0+(len a1))+1)));(sl ((cnE tI x)&&true) (sl (Nat.beq t1.alt 1) (sl ((cnE tI (rt tI x))&&true) (sl (Nat.beq t2.alt 1) (sl ((cnE tI t2.i4)&&true) (sl (Nat.beq t3.alt 1) (sl ((cnE tI (rt tI t2.i4))&&true) (sl (Nat.beq t4.alt 1) (sl ((cnE tI (rt tI (rt tI t2.i4)))&&true) (sl (Nat.beq t5.alt 1) (sl (bb2 (⟨t2.O8,t2.O9,t2.P0⟩:V3) (⟨(W ((W (t2.O8+1))+t3.is0)),(W ((W (t2.O9+1))+t4.is0)),(W ((W (t2.P0+1))+t5.is0))⟩:V3)) (sl (inB a0 ((List.length x)+1)) (sl (t1.is0==2) (sl (Nat.beq (len a1) 0) (sl (okL tI a3 a2) (sl (yb6 (lsL tI a3 a2)) (sl (Oa5 [t7]) (sl t8 (some ((.sl 0 0 1 0),[⟨73,4,[[(i t7.n.x),(i t7.n.y),(i t7.n.z),(i t7.b)]],true,false,0⟩])) (sl (t1.is0==3) (sl (okL tI a3 a2) (sl (Ja8 (lsL tI a3 a2)) (sl (okE tV t9) (sl (Ga3 (rt tV t9)) (sl (t10.2==0) (some ((eL tP t10.1),[])) (some ((eL tP t6),[]))) none) none) none) none) (some ((eL tP t6),[])))) none) none) none) (sl (Nat.beq 0 0&&Nat.ble ((0+(len a1))*32) room) (sl (okL tI a3 a2) (sl (yb6 (lsL tI a3 a2)) (sl (Nat.beq (0+(len a1)) (len (app [] a1))&&Nat.ble (((0+(len a1))+1)*32) room) (sl (okS tP (app (app [] a1) [[(i t7.n.x),(i t7.n.y),(i t7.n.z),(i t7.b)]]) 0 ((0+(len a1))+1)) (sl (Oa5 (slR tP (app (app [] a1) [[(i t7.n.x),(i t7.n.y),(i t7.n.z),(i t7.b)]]) 0 ((0+(len a1))+1))) (sl t11 (some ((.sl 0 0 ((0+(len a1))+1) 0),[⟨73,4,(app (app [] a1) [[(i t7.n.x),(i t7.n.y),(i t7.n.z),(i t7.b)]]),true,false,0⟩])) (sl (t1.is0==3) (sl (okL tI a3 a2) (sl (Ja8 (lsL tI a3 a2)) (sl (okE tV t9) (sl (Ga3 (rt tV t9)) (sl (t10.2==0) (some ((eL tP t10.1),[])) (some ((eL tP t6),[]))) none) none) none) none) (some ((eL tP t6),[])))) none) none) none) none) none) none)) (sl (t1.is0==3) (sl (okL tI a3 a2) (sl (Ja8 (lsL tI a3 a2)) (sl (okE tV t9) (sl (Ga3 (rt tV t9)) (sl (t10.2==0) (some ((eL tP t10.1),[])) (some ((eL tP t6),[]))) none) none) none) none) (some ((eL tP t6),[])))) none) none) none) none) none) none) none) none) none) none) none) none)
noncomputable def L0 (x:List Int):List Pln:=C9 (one (r1L tP)) (fb3 x)
noncomputable def Xb9 (x:List Int):Bool:=okO (one (r1L tP)) (fb3 x)
noncomputable def Sc8:Sum:=Q5 (fa0 tI) (fun x=>.guard (Xb9 x) (.ret ((one (r1L tP)).enc (L0 x),[])))
theorem Nd9:g8 prog G 16 Sc8:=ya9 (bd b16 yd5) (one (r1L tP)) (o:=fb3) fun x=>p5 (by kernel_rfl)
noncomputable def xc8:List (Nat×Sum):=[]
theorem yd6:i7 prog G xc8:=trivial
structure Ja9 where
 d8:List Pln
 Ua6:List Pln
structure aa3 where
 is5:Int
noncomputable def gd7 (p:Ja9) (s:aa3):St:=⟨((eL tP p.d8)::((eL tP p.Ua6)::(ra 3 ((i s.is5)::(ra 20 []))))),[]⟩
noncomputable def ua8 {α:Type} (k:aa3→α) (e:Nat→α) (z:α) (p:Ja9) (s:aa3):α:=(sl (decide (s.is5 < (↑(List.length p.d8):Int))) (sl (inB s.is5 (List.length p.d8)) (sl (inB s.is5 (List.length p.Ua6)) (sl (!(((gL tP p.d8 s.is5.toNat).n.x==(gL tP p.Ua6 s.is5.toNat).n.x)&&(((gL tP p.d8 s.is5.toNat).n.y==(gL tP p.Ua6 s.is5.toNat).n.y)&&(((gL tP p.d8 s.is5.toNat).n.z==(gL tP p.Ua6 s.is5.toNat).n.z)&&(((gL tP p.d8 s.is5.toNat).b==(gL tP p.Ua6 s.is5.toNat).b)&&true))))) (e 1) (k ⟨(W (s.is5+1))⟩)) z) z) (e 2))
noncomputable def Ba1 (p:Ja9) (s:aa3):Stp aa3:=ua8 .next .exit .fail p s
noncomputable def zb4:Lo Ja9 aa3:=⟨En xc8,0,of8,[1,1,0,1,4,4],[0,1,5],.p,[⟨((.s (.c 4 (nL tP)))::((.s (.c 4 (nL tP)))::(ru2 3 ((.s (.o (.int .i64)))::(ru2 20 []))))),[],fun a H=>(⟨(rL tP (slT a 0)),(rL tP (slT a 1))⟩,⟨(toI (slT a 5))⟩)⟩],Ba1,[(none,fun p s=>⟨[(b false)],[]⟩),(some 0,fun p s=>⟨((eL tP p.d8)::((eL tP p.Ua6)::(ra 3 ((i s.is5)::(ra 5 ((i s.is5)::((eL tP p.d8)::((i (↑(List.length p.d8):Int))::((b (decide (s.is5 < (↑(List.length p.d8):Int))))::(ra 11 [])))))))))),[]⟩)],gd7⟩
theorem gd8:zb4.Ok:=Lo.ok [] (by kernel_rfl) .nil rfl (.cons (fun a H=>by kernel_rfl) .nil) fun p s=>(.of @ua8 (fun F _ _ _ _ _=>by unfold ua8;(repeat' apply k9 (f:=F))<;>rfl) (by kernel_rfl))
noncomputable def fb4 (x:List Pln) (y:List Pln):Option (b7×List b8):=let t1:=(lp (Ba1 (⟨(rt tP x),(rt tP y)⟩:Ja9)) (⟨0⟩:aa3));(sl ((↑(List.length x):Int) != (↑(List.length y):Int)) (some ((b false),[])) (sl ((cnE tP x)&&((cnE tP y)&&true)) (sl (Nat.beq t1.1 1) (some ((b false),[])) (sl (Nat.beq t1.1 2) (some ((b true),[])) none)) none))
noncomputable def ia1 (x:List Pln) (y:List Pln):Bool:=C9 (one r1B) (fb4 x y)
noncomputable def ia2 (x:List Pln) (y:List Pln):Bool:=okO (one r1B) (fb4 x y)
noncomputable def Yb0:Sum:=Z9 (fa0 tP) (fa0 tP) (fun x y=>.guard (ia2 x y) (.ret ((one r1B).enc (ia1 x y),[])))
theorem xc9:g8 prog G 23 Yb0:=Ia3 (bd b23 yd6) (one r1B) (o:=fb4) fun x y=>sa8 (.s .p (.s .p (.s (.s .p (.b (.u zb4.ls))) .p))) [zb4.pr] (by kernel_rfl) (.cons gd8 .nil) (by kernel_rfl)
noncomputable def Sc9:List (Nat×Sum):=[(27,sb5),(72,pd0),(73,Xb6)]
theorem Od0:i7 prog G Sc9:=⟨yb3,Zd8,xc2,trivial⟩
structure Ta8 where
 is6:Int
structure la1 where
 ns5:Nat
 eh0:List (List b7)
noncomputable def yd7 (p:Ta8) (s:la1):St:=⟨(ra 5 ((.sl 0 0 s.ns5 0)::((i p.is6)::(ra 91 [])))),[⟨73,4,s.eh0,true,false,0⟩]⟩
noncomputable def Qa9 {α:Type} (k:la1→α) (e:Nat→α) (z:α) (p:Ta8) (s:la1):α:=(sl (decide ((↑s.ns5:Int)≤48)) (sl (inB p.is6 s.ns5) (sl (ldR tP s.eh0 (0+p.is6.toNat)) (sl (Nat.beq s.ns5 (len s.eh0)&&Nat.ble ((s.ns5+1)*32) room) (k ⟨(s.ns5+1),(app s.eh0 [[(i (rdR tP s.eh0 (0+p.is6.toNat)).n.x),(i (rdR tP s.eh0 (0+p.is6.toNat)).n.y),(i (rdR tP s.eh0 (0+p.is6.toNat)).n.z),(i (rdR tP s.eh0 (0+p.is6.toNat)).b)]])⟩) z) z) z) (e 1))
noncomputable def Ka0 (p:Ta8) (s:la1):Stp la1:=Qa9 .next .exit .fail p s
noncomputable def Jb0:Lo Ta8 la1:=⟨En Sc9,0,of7,[1,1,1,1,0,1,4,1,3,1,3,1,3,1,3,1,3,1,2,4,4],[5,6],.p,[⟨(ru2 5 ((.s (.o (.sl 0 0 (some 0) none)))::((.s (.o (.int .i64)))::(ru2 91 [])))),[⟨73,4,true,none⟩],fun a H=>(⟨(toI (slT a 6))⟩,⟨(slN (slT a 5)),(elT H 0)⟩)⟩],Ka0,[(some 1,fun p s=>⟨(ra 5 ((.sl 0 0 s.ns5 0)::((i p.is6)::(ra 80 ((.sl 0 0 s.ns5 0)::((i (↑s.ns5:Int))::((b (decide ((↑s.ns5:Int)≤48)))::(ra 8 [])))))))),[⟨73,4,s.eh0,true,false,0⟩]⟩)],yd7⟩
theorem yd8:Jb0.Ok:=Lo.ok [] (by kernel_rfl) .nil rfl (.cons (fun a H=>by kernel_rfl) .nil) fun p s=>(.of @Qa9 (fun F _ _ _ _ _=>by unfold Qa9;(repeat' apply k9 (f:=F))<;>rfl) (by kernel_rfl))
noncomputable def tb1 (x:List Pln) (y:V3):Option (b7×List b8):=let t2:=(pa7 y.x 6);let t5:=(pa7 y.z 9);let a0:=(m9 (fun k=>(tP).row (gL tP x k)) (List.range (List.length x)));let t1:=(pa7 y.y (↑(0+(len a0)):Int));let t6:=(lp (Ka0 (⟨t1⟩:Ta8)) (⟨(0+(len a0)),(app [] a0)⟩:la1));let a1:=(C4 (g9 (app [] a0) (0+(W (t1+1)).toNat)) ((0+(len a0)) - (W (t1+1)).toNat));let a2:=(i6 (app [] a0) (0+t1.toNat));let a3:=(rdR tP (app [] a0) (0+t1.toNat));let t3:=(od9 a3 (⟨y.z,y.y,y.x⟩:V3));let t4:=(yb7 a3);let a4:=(Nat.blt (0+t1.toNat) (len (app [] a0)));(sl (Nat.beq (len a0) 0) (some ((.sl 0 0 1 0),[⟨73,4,[[(i 0),(i 0),(i 0),(i 0)]],true,false,0⟩])) (sl (Nat.beq 0 0&&Nat.ble ((0+(len a0))*32) room) (sl ((↑(0+(len a0)):Int)==0) (some ((.sl 0 0 1 0),[⟨73,4,[[(i 0),(i 0),(i 0),(i 0)]],true,false,0⟩])) (sl (ka4 y.y (↑(0+(len a0)):Int)) (sl (ka4 y.x 6) (sl (t2==0) (sl (inB t1 (0+(len a0))) (sl (ldR tP (app [] a0) (0+t1.toNat)) (sl (pc5 a3 (⟨y.z,y.y,y.x⟩:V3)) (sl (inB t1 (0+(len a0))) (sl (a4&&(Nat.ble (0+4) (len a2))) (some ((.sl 0 0 (0+(len a0)) 0),[⟨73,4,(setAt (app [] a0) (0+t1.toNat) (J1 a2 0 [(i t3.n.x),(i t3.n.y),(i t3.n.z),(i t3.b)])),true,false,0⟩])) none) none) none) none) none) (sl (t2==1) (sl (inB t1 ((0+(len a0))+1)) (sl (inB (W (t1+1)) ((0+(len a0))+1)) (sl (Nat.ble ((t1.toNat - 0)+(len a1)) (len (app [] a0))) (some ((.sl 0 0 ((t1.toNat - 0)+(len a1)) 0),[⟨73,4,(app (C4 (app [] a0) (t1.toNat - 0)) (app a1 (g9 (app [] a0) ((t1.toNat - 0)+(len a1))))),true,false,0⟩])) none) none) none) (sl (t2==2) (sl (inB t1 (0+(len a0))) (sl (ldR tP (app [] a0) (0+t1.toNat)) (sl (inB t1 (0+(len a0))) (sl (a4&&(Nat.ble (0+4) (len a2))) (some ((.sl 0 0 (0+(len a0)) 0),[⟨73,4,(setAt (app [] a0) (0+t1.toNat) (J1 a2 0 [(i t4.n.x),(i t4.n.y),(i t4.n.z),(i t4.b)])),true,false,0⟩])) none) none) none) none) (sl (t2==3) (sl (inB t1 (0+(len a0))) (sl (ldR tP (app [] a0) (0+t1.toNat)) (sl (Nat.beq (0+(len a0)) (len (app [] a0))&&Nat.ble (((0+(len a0))+1)*32) room) (some ((.sl 0 0 ((0+(len a0))+1) 0),[⟨73,4,(app (app [] a0) [[(i a3.n.x),(i a3.n.y),(i a3.n.z),(i a3.b)]]),true,false,0⟩])) none) none) none) (sl (t2==4) (sl (inB t1 (0+(len a0))) (sl ((a4&&(Nat.ble (3+1) (len a2)))&&(L9 [(CK.int .i64)] (g9 a2 3))) (sl (ka4 y.z 9) (sl (inB t1 (0+(len a0))) (sl (a4&&(Nat.ble (3+1) (len a2))) (some ((.sl 0 0 (0+(len a0)) 0),[⟨73,4,(setAt (app [] a0) (0+t1.toNat) (J1 a2 3 [(i (W ((W ((toI (hdA (g9 a2 3)))+t5)) - 4)))])),true,false,0⟩])) none) none) none) none) none) (sl (t2==5) (sl (Nat.beq t6.1 1) (some ((.sl 0 0 t6.2.ns5 0),[⟨73,4,t6.2.eh0,true,false,0⟩])) none) (some ((.sl 0 0 (0+(len a0)) 0),[⟨73,4,(app [] a0),true,false,0⟩])))))))) none) none)) none))
noncomputable def Ga4 (x:List Pln) (y:V3):List Pln:=C9 (one (r1L tP)) (tb1 x y)
noncomputable def pc8 (x:List Pln) (y:V3):Bool:=okO (one (r1L tP)) (tb1 x y)
noncomputable def pd2:Sum:=Z9 (fa0 tP) (B0 tV) (fun x y=>.guard (pc8 x y) (.ret ((one (r1L tP)).enc (Ga4 x y),[])))
theorem ae0:g8 prog G 17 pd2:=Ia3 (bd b17 Od0) (one (r1L tP)) (o:=tb1) fun x y=>sa8 (.s .p (.s .p (.s .p (.s .p (.s (.s .p (.b (.s .p (.c .p (.s .p (.c .p (.s .p (.c .p (.s .p (.c .p (.s .p (.c .p (.s .p (.c (.b (.u Jb0.ls)) .p)))))))))))))) .p))))) [Jb0.pr] (by kernel_rfl) (.cons yd8 .nil) (by kernel_rfl)
end Go.Ev.Ce
end
section
namespace Go.Ev.Ce
open Go Go.Ev Go.Ev.L Go.Proofs
set_option maxRecDepth 100000
structure Od1 where
 alt:Nat
 ns0:Nat
 eh0:List (List b7)
end Go.Ev.Ce
end
section
namespace Go.Ev.Ce
open Go Go.Ev Go.Ev.L Go.Proofs
set_option maxRecDepth 100000
structure af1 where
 d8:List Pln
 c9:Int
 c7:Int
 d7:Int
 g7:Int
structure af2 where
 is5:Int
end Go.Ev.Ce
end
section
namespace Go.Ev.Ce
open Go Go.Ev Go.Ev.L Go.Proofs
set_option maxRecDepth 100000
noncomputable def yd9:List (Nat×Sum):=[]
theorem gd9:i7 prog G yd9:=trivial
noncomputable def ua9 (x:V3) (y:V3):V3:=(⟨(W (x.x - y.x)),(W (x.y - y.y)),(W (x.z - y.z))⟩:V3)
noncomputable def Jb1:Sum:=Z9 (B0 tV) (B0 tV) (fun x y=>.ret ((one r1V).enc (ua9 x y),[]))
theorem gc4:g8 prog G 108 Jb1:=ra7 (bd Af6 gd9) fun x y=>p5 (by kernel_rfl)
noncomputable def hd4:List (Nat×Sum):=[(108,Jb1)]
theorem Tc0:i7 prog G hd4:=⟨gc4,trivial⟩
noncomputable def xa6 (x:Pln):Pln:=let t1:=(ua9 (⟨0,0,0⟩:V3) x.n);(⟨t1,(W (0 - x.b))⟩:Pln)
noncomputable def gc5:Sum:=Q5 (B0 tP) (fun x=>.ret ((one r1P).enc (xa6 x),[]))
theorem hd5:g8 prog G 52 gc5:=kb8 (bd b52 Tc0) fun x=>p5 (by kernel_rfl)
end Go.Ev.Ce
end
