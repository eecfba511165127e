/- Own work: a part of the proof. -/
import Derived.Test.YtlccibobknidjaaGreatEvBd
import Derived.Test.YtlccibobknidjaaGreatChecked
import Derived.Test.YtlccibobknidjaaGreatEvCePf
import Derived.KernelRfl
import Derived.Test.YtlccibobknidjaaGreatEvSp2
import Derived.Test.YtlccibobknidjaaGreatEvMem
import Derived.Shelf.Spec.SlicesGrow
set_option linter.unusedVariables false
set_option linter.unusedSimpArgs false
set_option linter.unnecessarySimpa false
set_option linter.unusedSectionVars false
section
namespace Go.Ev.Ce
open Go Go.Ev Go.Proofs
set_option maxRecDepth 1000000
theorem mx:(Tryz.prog).follows .mixedOrders=true:=Checked.mixed Tryz.checked
theorem b3:r6 Tryz.prog 3 fun E=>i8 E pf3:=s5 mx Tryz.func3 (by kernel_rfl) (f8 (by kernel_rfl))
theorem b4:r6 Tryz.prog 4 fun E=>i8 E pf4:=s5 mx Tryz.func4 (by kernel_rfl) (f8 (by kernel_rfl))
theorem b5:r6 Tryz.prog 5 fun E=>i8 E pf5:=s5 mx Tryz.func5 (by kernel_rfl) (f8 (by kernel_rfl))
theorem b6:r6 Tryz.prog 6 fun E=>i8 E pf6:=s5 mx Tryz.func6 (by kernel_rfl) (f8 (by kernel_rfl))
theorem b13:r6 Tryz.prog 13 fun E=>i8 E df7:=s5 mx Tryz.func13 (by kernel_rfl) (f8 (by kernel_rfl))
theorem b14:r6 Tryz.prog 14 fun E=>i8 E df8:=s5 mx Tryz.func14 (by kernel_rfl) (f8 (by kernel_rfl))
theorem b15:r6 Tryz.prog 15 fun E=>i8 E df9:=s5 mx Tryz.func15 (by kernel_rfl) (f8 (by kernel_rfl))
theorem b16:r6 Tryz.prog 16 fun E=>i8 E Ve7:=s5 mx Tryz.func16 (by kernel_rfl) (f8 (by kernel_rfl))
theorem b17:r6 Tryz.prog 17 fun E=>i8 E Ve8:=s5 mx Tryz.func17 (by kernel_rfl) (f8 (by kernel_rfl))
theorem b18:r6 Tryz.prog 18 fun E=>i8 E ef0:=s5 mx Tryz.func18 (by kernel_rfl) (f8 (by kernel_rfl))
theorem b19:r6 Tryz.prog 19 fun E=>i8 E ef1:=s5 mx Tryz.func19 (by kernel_rfl) (f8 (by kernel_rfl))
theorem b20:r6 Tryz.prog 20 fun E=>i8 E ef2:=s5 mx Tryz.func20 (by kernel_rfl) (f8 (by kernel_rfl))
theorem b21:r6 Tryz.prog 21 fun E=>i8 E ef3:=s5 mx Tryz.func21 (by kernel_rfl) (f8 (by kernel_rfl))
theorem b22:r6 Tryz.prog 22 fun E=>i8 E Ve9:=s5 mx Tryz.func22 (by kernel_rfl) (f8 (by kernel_rfl))
theorem b24:r6 Tryz.prog 24 fun E=>i8 E We0:=s5 mx Tryz.func24 (by kernel_rfl) (f8 (by kernel_rfl))
theorem b25:r6 Tryz.prog 25 fun E=>i8 E ef4:=s5 mx Tryz.func25 (by kernel_rfl) (f8 (by kernel_rfl))
theorem b26:r6 Tryz.prog 26 fun E=>i8 E We1:=s5 mx Tryz.func26 (by kernel_rfl) (f8 (by kernel_rfl))
theorem b27:r6 Tryz.prog 27 fun E=>i8 E Oe8:=s5 mx Tryz.func27 (by kernel_rfl) (f8 (by kernel_rfl))
theorem b28:r6 Tryz.prog 28 fun E=>i8 E ef5:=s5 mx Tryz.func28 (by kernel_rfl) (f8 (by kernel_rfl))
theorem b29:r6 Tryz.prog 29 fun E=>i8 E ef6:=s5 mx Tryz.func29 (by kernel_rfl) (f8 (by kernel_rfl))
theorem b30:r6 Tryz.prog 30 fun E=>i8 E ef7:=s5 mx Tryz.func30 (by kernel_rfl) (f8 (by kernel_rfl))
theorem b31:r6 Tryz.prog 31 fun E=>i8 E ef8:=s5 mx Tryz.func31 (by kernel_rfl) (f8 (by kernel_rfl))
theorem b33:r6 Tryz.prog 33 fun E=>i8 E ef9:=s5 mx Tryz.func33 (by kernel_rfl) (f8 (by kernel_rfl))
theorem b35:r6 Tryz.prog 35 fun E=>i8 E ff0:=s5 mx Tryz.func35 (by kernel_rfl) (f8 (by kernel_rfl))
theorem b37:r6 Tryz.prog 37 fun E=>i8 E ff1:=s5 mx Tryz.func37 (by kernel_rfl) (f8 (by kernel_rfl))
theorem b39:r6 Tryz.prog 39 fun E=>i8 E We2:=s5 mx Tryz.func39 (by kernel_rfl) (f8 (by kernel_rfl))
theorem b46:r6 Tryz.prog 46 fun E=>i8 E We3:=s5 mx Tryz.func46 (by kernel_rfl) (f8 (by kernel_rfl))
theorem b47:r6 Tryz.prog 47 fun E=>i8 E ff2:=s5 mx Tryz.func47 (by kernel_rfl) (f8 (by kernel_rfl))
theorem b54:r6 Tryz.prog 54 fun E=>i8 E ff3:=s5 mx Tryz.func54 (by kernel_rfl) (f8 (by kernel_rfl))
theorem b81:r6 Tryz.prog 81 fun E=>i8 E ff4:=s5 mx Tryz.func81 (by kernel_rfl) (f8 (by kernel_rfl))
theorem b82:r6 Tryz.prog 82 fun E=>i8 E ff5:=s5 mx Tryz.func82 (by kernel_rfl) (f8 (by kernel_rfl))
theorem b83:r6 Tryz.prog 83 fun E=>i8 E ff6:=s5 mx Tryz.func83 (by kernel_rfl) (f8 (by kernel_rfl))
theorem b84:r6 Tryz.prog 84 fun E=>i8 E ff7:=s5 mx Tryz.func84 (by kernel_rfl) (f8 (by kernel_rfl))
theorem b85:r6 Tryz.prog 85 fun E=>i8 E ff8:=s5 mx Tryz.func85 (by kernel_rfl) (f8 (by kernel_rfl))
theorem b86:r6 Tryz.prog 86 fun E=>i8 E ff9:=s5 mx Tryz.func86 (by kernel_rfl) (f8 (by kernel_rfl))
theorem b87:r6 Tryz.prog 87 fun E=>i8 E gf0:=s5 mx Tryz.func87 (by kernel_rfl) (f8 (by kernel_rfl))
theorem b88:r6 Tryz.prog 88 fun E=>i8 E gf1:=s5 mx Tryz.func88 (by kernel_rfl) (f8 (by kernel_rfl))
theorem b89:r6 Tryz.prog 89 fun E=>Sb4 E Ae8:=He7 (h:=h89) mx Tryz.func89 (by kernel_rfl) Tryz.func217 (by kernel_rfl) (f8 (by kernel_rfl))
theorem b90:r6 Tryz.prog 90 fun E=>i8 E Ae9:=s5 mx Tryz.func90 (by kernel_rfl) (f8 (by kernel_rfl))
theorem b91:r6 Tryz.prog 91 fun E=>i8 E gf2:=s5 mx Tryz.func91 (by kernel_rfl) (f8 (by kernel_rfl))
theorem b92:r6 Tryz.prog 92 fun E=>i8 E gf3:=s5 mx Tryz.func92 (by kernel_rfl) (f8 (by kernel_rfl))
theorem b93:r6 Tryz.prog 93 fun E=>i8 E Oe9:=s5 mx Tryz.func93 (by kernel_rfl) (f8 (by kernel_rfl))
theorem b94:r6 Tryz.prog 94 fun E=>i8 E gf4:=s5 mx Tryz.func94 (by kernel_rfl) (f8 (by kernel_rfl))
theorem b95:r6 Tryz.prog 95 fun E=>i8 E gf5:=s5 mx Tryz.func95 (by kernel_rfl) (f8 (by kernel_rfl))
theorem b97:r6 Tryz.prog 97 fun E=>i8 E gf6:=s5 mx Tryz.func97 (by kernel_rfl) (f8 (by kernel_rfl))
theorem b98:r6 Tryz.prog 98 fun E=>i8 E gf7:=s5 mx Tryz.func98 (by kernel_rfl) (f8 (by kernel_rfl))
theorem b99:r6 Tryz.prog 99 fun E=>i8 E We4:=s5 mx Tryz.func99 (by kernel_rfl) (f8 (by kernel_rfl))
theorem Pe0:r6 Tryz.prog 100 fun E=>i8 E We5:=s5 mx Tryz.func100 (by kernel_rfl) (f8 (by kernel_rfl))
theorem gf8:r6 Tryz.prog 101 fun E=>i8 E He8:=s5 mx Tryz.func101 (by kernel_rfl) (f8 (by kernel_rfl))
theorem gf9:r6 Tryz.prog 102 fun E=>i8 E We6:=s5 mx Tryz.func102 (by kernel_rfl) (f8 (by kernel_rfl))
theorem hf0:r6 Tryz.prog 103 fun E=>i8 E We7:=s5 mx Tryz.func103 (by kernel_rfl) (f8 (by kernel_rfl))
theorem hf3:r6 Tryz.prog 104 fun E=>i8 E We8:=s5 mx Tryz.func104 (by kernel_rfl) (f8 (by kernel_rfl))
theorem Ze7:r6 Tryz.prog 105 fun E=>i8 E ne4:=s5 mx Tryz.func105 (by kernel_rfl) (f8 (by kernel_rfl))
theorem hf4:r6 Tryz.prog 106 fun E=>i8 E He9:=s5 mx Tryz.func106 (by kernel_rfl) (f8 (by kernel_rfl))
theorem hf5:r6 Tryz.prog 107 fun E=>i8 E We9:=s5 mx Tryz.func107 (by kernel_rfl) (f8 (by kernel_rfl))
theorem hf6:r6 Tryz.prog 108 fun E=>i8 E Xe0:=s5 mx Tryz.func108 (by kernel_rfl) (f8 (by kernel_rfl))
theorem hf7:r6 Tryz.prog 109 fun E=>i8 E Xe1:=s5 mx Tryz.func109 (by kernel_rfl) (f8 (by kernel_rfl))
theorem hf8:r6 Tryz.prog 110 fun E=>i8 E Ie0:=s5 mx Tryz.func110 (by kernel_rfl) (f8 (by kernel_rfl))
theorem Ze8:r6 Tryz.prog 111 fun E=>i8 E Xe2:=s5 mx Tryz.func111 (by kernel_rfl) (f8 (by kernel_rfl))
theorem hf9:r6 Tryz.prog 112 fun E=>i8 E Wd4:=s5 mx Tryz.func112 (by kernel_rfl) (f8 (by kernel_rfl))
theorem Ze9:r6 Tryz.prog 113 fun E=>i8 E Xe3:=s5 mx Tryz.func113 (by kernel_rfl) (f8 (by kernel_rfl))
theorem if0:r6 Tryz.prog 114 fun E=>i8 E Xe4:=s5 mx Tryz.func114 (by kernel_rfl) (f8 (by kernel_rfl))
theorem if1:r6 Tryz.prog 115 fun E=>i8 E Xe5:=s5 mx Tryz.func115 (by kernel_rfl) (f8 (by kernel_rfl))
theorem if2:r6 Tryz.prog 118 fun E=>i8 E Xe6:=s5 mx Tryz.func118 (by kernel_rfl) (f8 (by kernel_rfl))
theorem if3:r6 Tryz.prog 119 fun E=>i8 E Xe7:=s5 mx Tryz.func119 (by kernel_rfl) (f8 (by kernel_rfl))
theorem if4:r6 Tryz.prog 124 fun E=>i8 E Ed3:=s5 mx Tryz.func124 (by kernel_rfl) (f8 (by kernel_rfl))
theorem if5:r6 Tryz.prog 126 fun E=>i8 E Xe8:=s5 mx Tryz.func126 (by kernel_rfl) (f8 (by kernel_rfl))
theorem if6:r6 Tryz.prog 129 fun E=>i8 E Xe9:=s5 mx Tryz.func129 (by kernel_rfl) (f8 (by kernel_rfl))
theorem if7:r6 Tryz.prog 130 fun E=>i8 E Ye0:=s5 mx Tryz.func130 (by kernel_rfl) (f8 (by kernel_rfl))
theorem if8:r6 Tryz.prog 142 fun E=>i8 E Ye1:=s5 mx Tryz.func142 (by kernel_rfl) (f8 (by kernel_rfl))
theorem if9:r6 Tryz.prog 157 fun E=>i8 E Ye2:=s5 mx Tryz.func157 (by kernel_rfl) (f8 (by kernel_rfl))
theorem Be0:r6 Tryz.prog 163 fun E=>i8 E Ed4:=s5 mx Tryz.func163 (by kernel_rfl) (f8 (by kernel_rfl))
theorem jf0:r6 Tryz.prog 164 fun E=>i8 E Ie1:=s5 mx Tryz.func164 (by kernel_rfl) (f8 (by kernel_rfl))
theorem jf1:r6 Tryz.prog 165 fun E=>i8 E ne5:=s5 mx Tryz.func165 (by kernel_rfl) (f8 (by kernel_rfl))
theorem jf2:r6 Tryz.prog 166 fun E=>i8 E Ie2:=s5 mx Tryz.func166 (by kernel_rfl) (f8 (by kernel_rfl))
theorem jf3:r6 Tryz.prog 167 fun E=>i8 E Ie3:=s5 mx Tryz.func167 (by kernel_rfl) (f8 (by kernel_rfl))
theorem jf4:r6 Tryz.prog 168 fun E=>i8 E Ye3:=s5 mx Tryz.func168 (by kernel_rfl) (f8 (by kernel_rfl))
theorem jf5:r6 Tryz.prog 169 fun E=>Sb4 E ne6:=He7 (h:=Ve6) mx Tryz.func169 (by kernel_rfl) Tryz.func216 (by kernel_rfl) (f8 (by kernel_rfl))
theorem jf6:r6 Tryz.prog 170 fun E=>i8 E Ie4:=s5 mx Tryz.func170 (by kernel_rfl) (f8 (by kernel_rfl))
theorem jf7:r6 Tryz.prog 171 fun E=>i8 E Ye4:=s5 mx Tryz.func171 (by kernel_rfl) (f8 (by kernel_rfl))
theorem jf8:r6 Tryz.prog 172 fun E=>i8 E Ye5:=s5 mx Tryz.func172 (by kernel_rfl) (f8 (by kernel_rfl))
theorem jf9:r6 Tryz.prog 173 fun E=>i8 E Ie5:=s5 mx Tryz.func173 (by kernel_rfl) (f8 (by kernel_rfl))
theorem kf0:r6 Tryz.prog 174 fun E=>i8 E Ye6:=s5 mx Tryz.func174 (by kernel_rfl) (f8 (by kernel_rfl))
theorem kf1:r6 Tryz.prog 175 fun E=>i8 E Ye7:=s5 mx Tryz.func175 (by kernel_rfl) (f8 (by kernel_rfl))
theorem kf2:r6 Tryz.prog 176 fun E=>i8 E Ye8:=s5 mx Tryz.func176 (by kernel_rfl) (f8 (by kernel_rfl))
theorem kf3:r6 Tryz.prog 177 fun E=>i8 E Ie6:=s5 mx Tryz.func177 (by kernel_rfl) (f8 (by kernel_rfl))
theorem kf4:r6 Tryz.prog 178 fun E=>i8 E Ie7:=s5 mx Tryz.func178 (by kernel_rfl) (f8 (by kernel_rfl))
theorem kf5:r6 Tryz.prog 179 fun E=>i8 E Ye9:=s5 mx Tryz.func179 (by kernel_rfl) (f8 (by kernel_rfl))
theorem kf6:r6 Tryz.prog 180 fun E=>i8 E Ie8:=s5 mx Tryz.func180 (by kernel_rfl) (f8 (by kernel_rfl))
theorem kf7:r6 Tryz.prog 181 fun E=>i8 E Ze0:=s5 mx Tryz.func181 (by kernel_rfl) (f8 (by kernel_rfl))
theorem kf8:r6 Tryz.prog 182 fun E=>i8 E Ie9:=s5 mx Tryz.func182 (by kernel_rfl) (f8 (by kernel_rfl))
theorem kf9:r6 Tryz.prog 183 fun E=>i8 E Je0:=s5 mx Tryz.func183 (by kernel_rfl) (f8 (by kernel_rfl))
theorem lf0:r6 Tryz.prog 184 fun E=>i8 E Je1:=s5 mx Tryz.func184 (by kernel_rfl) (f8 (by kernel_rfl))
theorem af0:r6 Tryz.prog 185 fun E=>i8 E ne7:=s5 mx Tryz.func185 (by kernel_rfl) (f8 (by kernel_rfl))
theorem lf1:r6 Tryz.prog 186 fun E=>i8 E Ze1:=s5 mx Tryz.func186 (by kernel_rfl) (f8 (by kernel_rfl))
theorem lf2:r6 Tryz.prog 187 fun E=>i8 E Ze2:=s5 mx Tryz.func187 (by kernel_rfl) (f8 (by kernel_rfl))
theorem lf3:r6 Tryz.prog 194 fun E=>i8 E Ze3:=s5 mx Tryz.func194 (by kernel_rfl) (f8 (by kernel_rfl))
theorem lf4:r6 Tryz.prog 207 fun E=>i8 E Je2:=s5 mx Tryz.func207 (by kernel_rfl) (f8 (by kernel_rfl))
theorem lf5:r6 Tryz.prog 214 fun E=>i8 E Ze4:=s5 mx Tryz.func214 (by kernel_rfl) (f8 (by kernel_rfl))
theorem lf6:r6 Tryz.prog 215 fun E=>i8 E Ze5:=s5 mx Tryz.func215 (by kernel_rfl) (f8 (by kernel_rfl))
theorem lf7:r6 Tryz.prog 217 fun E=>i8 E Je3:=s5 mx Tryz.func217 (by kernel_rfl) (f8 (by kernel_rfl))
theorem lf8:r6 Tryz.prog 218 fun E=>i8 E ne8:=s5 mx Tryz.func218 (by kernel_rfl) (f8 (by kernel_rfl))
theorem lf9:r6 Tryz.prog 219 fun E=>i8 E Ze6:=s5 mx Tryz.func219 (by kernel_rfl) (f8 (by kernel_rfl))
theorem mf0:r6 Tryz.prog 220 fun E=>i8 E Je4:=s5 mx Tryz.func220 (by kernel_rfl) (f8 (by kernel_rfl))
theorem mf1:r6 Tryz.prog 221 fun E=>i8 E Je5:=s5 mx Tryz.func221 (by kernel_rfl) (f8 (by kernel_rfl))
theorem mf2:r6 Tryz.prog 222 fun E=>i8 E Je6:=s5 mx Tryz.func222 (by kernel_rfl) (f8 (by kernel_rfl))
theorem mf3:r6 Tryz.prog 230 fun E=>i8 E Je7:=s5 mx Tryz.func230 (by kernel_rfl) (f8 (by kernel_rfl))
theorem mf4:r6 Tryz.prog 231 fun E=>i8 E Je8:=s5 mx Tryz.func231 (by kernel_rfl) (f8 (by kernel_rfl))
end Go.Ev.Ce
end
namespace Go.Ev.L
open Go Go.Ev
noncomputable def Sb8:RT→PC→PS2
 | .s a b,.seq x y=>.seq (Sb8 a x) (Sb8 b y)
 | .c a b,.cond g x y=>.cond g (Sb8 a x) (Sb8 b y)
 | .b a,.block id x=>.block id (Sb8 a x)
 | .i a,.inner f x n c=>.inner f x n (Sb8 a c)
 | .u S,_=>.sum S
 | _,c=>.pc c
theorem rd5 {E:Env} {k:Nat} (rt:RT) (c:PC):Qa8 (fun x=>∀ s,Y9 (x.1 s) (N1 E k x.2 s)) (bc9 rt c)→ka5 E k (Sb8 rt c) c:=by
 induction rt generalizing c with
 | p=>intro h;cases c<;>exact .pc _
 | s a b iha ihb =>
  intro h
  cases c with
  | seq x y=>exact .seq (iha x (Qa8.app h).1) (ihb y (Qa8.app h).2)
  | _=>exact .pc _
 | c a b iha ihb =>
  intro h
  cases c with
  | cond g x y=>exact .cond g (iha x (Qa8.app h).1) (ihb y (Qa8.app h).2)
  | _=>exact .pc _
 | b a iha =>
  intro h
  cases c with
  | block id x=>exact .block id (iha x h)
  | _=>exact .pc _
 | l a iha=>intro h;cases c<;>exact .pc _
 | i a iha =>
  intro h
  cases c with
  | inner f x n c=>exact .inner f x n (iha c h)
  | _=>exact .pc _
 | u S =>
  intro h
  have:bc9 (.u S) c=[(S,c)]:=by cases c<;>rfl
  rw[this] at h
  cases h with
  | cons h t =>
   have e:Sb8 (.u S) c=.sum S:=by cases c<;>rfl
   rw[e]
   exact .sum h
section
variable {π σ:Type} {E:Env} {k:Nat} {keep:List Nat} {alts:List (Al2 π σ)} {enc:π→σ→St} {step:π→σ→Stp σ} {xs:Xs π σ} {body:PS2} {c:PC}
theorem Rb6.belowM (hb:ka5 E k body c) (hN:E.N=rounds+1) (w:Rb6 Ed2 k keep (xc2 E k body) alts step xs enc) (s:St):Y9 (kd0 Ed2 k keep alts step xs s) (N1 E k (.loopM keep c) s):=fun r hr=>by
 obtain⟨t,h1,h2⟩:=w.go hr
 rw[Qd7,hN]
 exact Gb6 hb.le _ _ _ (Yb6 h1 h2)
theorem Rb6.belowML (hb:ka5 E k body c) (hN:E.N=rounds+1) (w:Rb6 Rb3 k keep (xc2 E k body) alts step xs enc) (s:St):Y9 (kd0 Rb3 k keep alts step xs s) (N1 E k (.loop keep c) s):=fun r hr=>by
 obtain⟨t,h1,h2⟩:=w.go hr
 rw[jd9,hN]
 exact Gb6 hb.le _ _ _ (Yb6 h1 h2)
end
end Go.Ev.L
namespace Go.Ev.Ab
open Go Go.Ev
@[reducible] def o (d:Nat) (x:PO):PI:=⟨some d,none,[],x⟩
@[reducible] def s (x:PO):PI:=⟨none,none,[],x⟩
@[reducible] def cb (b:Bool):Arg:=.c (.v (.bool b))
@[reducible] def vi (n:Int):b7:=.v (.int .i64 n)
@[reducible] def rep {α:Type} (n:Nat) (x:α):List α:=List.replicate n x
@[reducible] def ki (n:Nat):List CK:=List.replicate n (.int .i64)
@[reducible] def mv (d n:Nat):PI:=o d (.mv (.t n))
@[reducible] def mb (d:Nat) (x:Bool):PI:=o d (.mv (cb x))
@[reducible] def fd (d k n:Nat):PI:=o d (.fld k (.t n))
@[reducible] def lf (d k n:Nat):PI:=o d (.load (ki k) k false (.t n))
@[reducible] def ex (d x k:Nat):PI:=o d (.ext (.t x) k)
@[reducible] def gf (n:Nat) (x:PI):PI:=⟨x.dst,some (n,false),x.hide,x.op⟩
@[reducible] def so (l:List PI) (x:PC):PC:=.seq (.ops l) x
@[reducible] def ts (l:List Nat):List Arg:=l.map .t
@[reducible] def cl (f:Nat) (l:List Nat):PO:=.call f (ts l)
@[reducible] def sT (k a b:Nat):PI:=s (.store k (.t a) (.t b))
@[reducible] def pa (d c x:Nat):PI:=o d (.pick (.t c) (.t x) (cb false))
@[reducible] def po (d c x:Nat):PI:=o d (.pick (.t c) (cb true) (.t x))
@[reducible] def al (d k:Nat) (n:Int):PI:=o d (.alloc (rep k (vi n)))
@[reducible] def ap (d et es n x y:Nat):PI:=o d (.append et es n (.t x) (.t y))
end Go.Ev.Ab
namespace Go.Ev.L
open Go Go.Ev
def Cps {π σ:Type} (u:∀ {α:Type},(σ→α)→(Nat→α)→α→π→σ→α):Prop :=
 ∀ {α β:Type} (F:α→β) (k:σ→α) (e:Nat→α) (z:α) (p:π) (s:σ),F (u k e z p s)=u (fun x=>F (k x)) (fun t=>F (e t)) (F z) p s
@[reducible] noncomputable def foL {π σ:Type} (en:π→σ→St) (xs:Xs π σ) (p:π) (s:σ):Stp σ→Option (c9×St):=Rb4 (fun s'=>some (.normal,en p s')) (fun t=>xOf xs p s t 1) none
structure Lo (π σ:Type) where
 E:Env
 k:Nat
 F:PFn
 at':List Nat
 kp:List Nat
 rt:RT
 al:List (Al2 π σ)
 st:π→σ→Stp σ
 xs:Xs π σ
 en:π→σ→St
namespace Lo
variable {π σ:Type} (L:Lo π σ)
noncomputable def lc:PC:=df5 L.at' L.F.body
noncomputable def ls:St→DT (c9×St):=kd0 Rb3 L.k L.kp L.al L.st L.xs
noncomputable def lsM:St→DT (c9×St):=kd0 Ed2 L.k L.kp L.al L.st L.xs
noncomputable def pr:(St→DT (c9×St))×PC:=(L.ls,.loop L.kp L.lc)
noncomputable def prM:(St→DT (c9×St))×PC:=(L.lsM,.loopM L.kp L.lc)
def Ok:Prop:=∀ s,fa0 L.k L.F.res (L.pr.1 s) (N1 L.E L.k L.pr.2 s)
def OkE:Prop:=∀ s,Y9 (L.pr.1 s) (N1 L.E L.k L.pr.2 s)
def OkM:Prop:=∀ s,Y9 (L.prM.1 s) (N1 L.E L.k L.prM.2 s)
def Rd (hd:St→DT St) (bd:St→DT (c9×St)) (p:π) (s:σ) (a:St) (b:Stp σ):Prop:=(Gb7 hd bd a).run=foL L.en L.xs p s b
def H0:Prop:=∀ p s,L.Rd (Rb3 L.k L.kp) (Vd0 L.E L.k L.F.res (ad1 L.rt L.lc)) p s (L.en p s) (L.st p s)
def H1:Prop:=∀ p s,L.Rd (Rb3 L.k L.kp) (xc2 L.E L.k (Sb8 L.rt L.lc)) p s (L.en p s) (L.st p s)
def H2:Prop:=∀ p s,L.Rd (Ed2 L.k L.kp) (xc2 L.E L.k (Sb8 L.rt L.lc)) p s (L.en p s) (L.st p s)
def HA:Prop:=Qa8 (fun x=>∀ a H,(⟨de0 x.sh a,de1 x.bl H⟩:St)=L.en (x.rd a H).1 (x.rd a H).2) L.al
variable {L}
theorem Rd.of {hd : St → DT St} {bd : St → DT (c9 × St)} {p : π} {s : σ} {a : St} (u : ∀ {α : Type}, (σ → α) → (Nat → α) → α → π → σ → α)
  (q:Cps @u) (H:(Gb7 hd bd a).run=u (fun x=>foL L.en L.xs p s (.next x)) (fun t=>foL L.en L.xs p s (.exit t)) (foL L.en L.xs p s .fail) p s):L.Rd hd bd p s a (u .next .exit .fail p s) :=
 H.trans (q (foL L.en L.xs p s) Stp.next Stp.exit Stp.fail p s).symm
theorem Rd.sel {hd:St→DT St} {bd:St→DT (c9×St)} {p:π} {s:σ} {a1 a0:St} {b1 b0:Stp σ} (c:Bool) (h1:L.Rd hd bd p s a1 b1) (h0:L.Rd hd bd p s a0 b0):L.Rd hd bd p s (sel c a1 a0) (sel c b1 b0):=by
 cases c with
 | true=>exact h1
 | false=>exact h0
theorem ok (l:List ((St→DT (c9×St))×PC)) (hs:bc9 L.rt L.lc=l) (hl:Qa8 (fun x=>∀ s,fa0 L.k L.F.res (x.1 s) (N1 L.E L.k x.2 s)) l) (hN:L.E.N=rounds+1) (ha:L.HA) (h:L.H0):L.Ok :=
 Rb6.belowC (Vd7 _ _ (by rw[hs];exact hl)) hN ⟨ha,h⟩
theorem okE (l:List ((St→DT (c9×St))×PC)) (hs:bc9 L.rt L.lc=l) (hl:Qa8 (fun x=>∀ s,Y9 (x.1 s) (N1 L.E L.k x.2 s)) l) (hN:L.E.N=rounds+1) (ha:L.HA) (h:L.H1):L.OkE :=
 Rb6.belowML (rd5 _ _ (by rw[hs];exact hl)) hN ⟨ha,h⟩
theorem okM (l:List ((St→DT (c9×St))×PC)) (hs:bc9 L.rt L.lc=l) (hl:Qa8 (fun x=>∀ s,Y9 (x.1 s) (N1 L.E L.k x.2 s)) l) (hN:L.E.N=rounds+1) (ha:L.HA) (h:L.H2):L.OkM :=
 Rb6.belowM (rd5 _ _ (by rw[hs];exact hl)) hN ⟨ha,h⟩
end Lo
theorem ua4 {E : Env} {F : PFn} {args : List b7} {blks : List b8} {o : Option (b7 × List b8)} (rt : RT) (l : List ((St → DT (c9 × St)) × PC)) (hs : bc9 rt F.body = l)
  (hl:Qa8 (fun x=>∀ s,fa0 (len blks) F.res (x.1 s) (N1 E (len blks) x.2 s)) l) (h:(Ue6 E F (ad1 rt F.body) args blks).run=o) (r:b7×List b8) (hr:o=some r):(i8 E F args blks).run=some r :=
 Pd2 (Vd7 rt _ (by rw[hs];exact hl)) r (h.trans hr)
theorem Je9 {E : Env} {F : PFn} {args : List b7} {blks : List b8} {o : Option (b7 × List b8)} (rt : RT) (l : List ((St → DT (c9 × St)) × PC)) (hs : bc9 rt F.body = l)
  (hl:Qa8 (fun x=>∀ s,Y9 (x.1 s) (N1 E (len blks) x.2 s)) l) (h:(He6 E F (Sb8 rt F.body) args blks).run=o) (r:b7×List b8) (hr:o=some r):(Sb4 E F args blks).run=some r :=
 Ed1 (rd5 rt _ (by rw[hs];exact hl)) r (h.trans hr)
theorem s6 {A o:Option (b7×List b8)} (h:A=o) (r:b7×List b8) (hr:o=some r):A=some r:=h.trans hr
end Go.Ev.L
namespace Go.Ev.Ce
structure V3 where
 x:Int
 y:Int
 z:Int
structure Pln where
 n:V3
 b:Int
structure Pt where
 px:Int
 py:Int
 pz:Int
 pw:Int
def q7 (a b:V3):V3:=⟨a.y*b.z - a.z*b.y,a.z*b.x - a.x*b.z,a.x*b.y - a.y*b.x⟩
def dot (a b:V3):Int:=a.x*b.x+a.y*b.y+a.z*b.z
def mw (p q r:Pln):Int:=dot p.n (q7 q.n r.n)
end Go.Ev.Ce
namespace Go.Ev.Ce
open Go Go.Ev Go.Ev.L Go.Proofs
@[reducible] noncomputable def prog:Program:=Tryz.prog
noncomputable def G:Nat→List Value:=fun _=>[]
noncomputable def En (l:List (Nat×Sum)):Env:={ P:=prog,G,fns:=fun _=>none,call:=Me8 l,own:=fun f j=>Bool.and (ab0 f [99,103,105,135,163,198,200,202]) (Nat.beq j 0),N:=18446744073709551616 }
@[reducible] def u:b7:=.v (.tuple #[])
theorem af1 {l:List (Nat×Sum)} (h:i6 prog G l):∀ f,g9 (En l).P (En l).G f ((En l).call f):=Ud8 h
theorem bd {l:List (Nat×Sum)} {f:FuncId} {R:Env→Sum} (b:r6 prog f R) (h:i6 prog G l):g9 prog G f (R (En l)):=b rfl (af1 h)
noncomputable def tV:Ty V3 where
 es:=3
 row x:=[i x.x,i x.y,i x.z]
 rd r:=⟨toI (hdA r),toI (hdA (tlA r)),toI (hdA (tlA (tlA r)))⟩
 ok r:=Ba4 3 r
 cks:=List.replicate 3 (.int .i64)
 d:=⟨0,0,0⟩
 h0 _:=rfl
 h1 _:=rfl
 h2 _:=rfl
 h3 _ h:=.of (Oa5 h)
 h4 _:=rfl
 h5 _:=rfl
noncomputable def r1V:R1 V3:=r1A tV 3 fun _ h=>h
noncomputable def tP:Ty Pln where
 es:=4
 row x:=[i x.n.x,i x.n.y,i x.n.z,i x.b]
 rd r:=⟨⟨toI (hdA r),toI (hdA (tlA r)),toI (hdA (tlA (tlA r)))⟩,toI (hdA (tlA (tlA (tlA r))))⟩
 ok r:=Ba4 4 r
 cks:=List.replicate 4 (.int .i64)
 d:=⟨⟨0,0,0⟩,0⟩
 h0 _:=rfl
 h1 _:=rfl
 h2 _:=rfl
 h3 _ h:=.of (Oa5 h)
 h4 _:=rfl
 h5 _:=rfl
noncomputable def r1P:R1 Pln:=r1A tP 4 fun _ h=>h
noncomputable def tX:Ty Pt where
 es:=4
 row x:=[i x.px,i x.py,i x.pz,i x.pw]
 rd r:=⟨toI (hdA r),toI (hdA (tlA r)),toI (hdA (tlA (tlA r))),toI (hdA (tlA (tlA (tlA r))))⟩
 ok r:=Ba4 4 r
 cks:=List.replicate 4 (.int .i64)
 d:=⟨0,0,0,0⟩
 h0 _:=rfl
 h1 _:=rfl
 h2 _:=rfl
 h3 _ h:=.of (Oa5 h)
 h4 _:=rfl
 h5 _:=rfl
noncomputable def r1X:R1 Pt:=r1A tX 4 fun _ h=>h
structure Tp where
 p:Pln
 q:Pln
 r:Pln
noncomputable def tY:Ty Tp where
 es:=12
 row x:=[i x.p.n.x,i x.p.n.y,i x.p.n.z,i x.p.b,i x.q.n.x,i x.q.n.y,i x.q.n.z,i x.q.b,i x.r.n.x,i x.r.n.y,i x.r.n.z,i x.r.b]
 rd r:=⟨⟨⟨toI (hdA r),toI (hdA (tlA r)),toI (hdA (tlA (tlA r)))⟩,toI (hdA (tlA (tlA (tlA r))))⟩,⟨⟨toI (hdA (tlA (tlA (tlA (tlA r))))),toI (hdA (tlA (tlA (tlA (tlA (tlA r)))))),toI (hdA (tlA (tlA (tlA (tlA (tlA (tlA r)))))))⟩,toI (hdA (tlA (tlA (tlA (tlA (tlA (tlA (tlA r))))))))⟩,⟨⟨toI (hdA (tlA (tlA (tlA (tlA (tlA (tlA (tlA (tlA r))))))))),toI (hdA (tlA (tlA (tlA (tlA (tlA (tlA (tlA (tlA (tlA r)))))))))),toI (hdA (tlA (tlA (tlA (tlA (tlA (tlA (tlA (tlA (tlA (tlA r)))))))))))⟩,toI (hdA (tlA (tlA (tlA (tlA (tlA (tlA (tlA (tlA (tlA (tlA (tlA r))))))))))))⟩⟩
 ok r:=Ba4 12 r
 cks:=List.replicate 12 (.int .i64)
 d:=⟨⟨⟨0,0,0⟩,0⟩,⟨⟨0,0,0⟩,0⟩,⟨⟨0,0,0⟩,0⟩⟩
 h0 _:=rfl
 h1 _:=rfl
 h2 _:=rfl
 h3 _ h:=.of (Oa5 h)
 h4 _:=rfl
 h5 _:=rfl
structure Q2 where
 a:V3
 b:V3
noncomputable def tQ:Ty Q2 where
 es:=6
 row x:=[i x.a.x,i x.a.y,i x.a.z,i x.b.x,i x.b.y,i x.b.z]
 rd r:=⟨⟨toI (hdA r),toI (hdA (tlA r)),toI (hdA (tlA (tlA r)))⟩,⟨toI (hdA (tlA (tlA (tlA r)))),toI (hdA (tlA (tlA (tlA (tlA r))))),toI (hdA (tlA (tlA (tlA (tlA (tlA r))))))⟩⟩
 ok r:=Ba4 6 r
 cks:=List.replicate 6 (.int .i64)
 d:=⟨⟨0,0,0⟩,⟨0,0,0⟩⟩
 h0 _:=rfl
 h1 _:=rfl
 h2 _:=rfl
 h3 _ h:=.of (Oa5 h)
 h4 _:=rfl
 h5 _:=rfl
end Go.Ev.Ce
section
namespace Go.Ev.Ce
open Go Go.Ev Go.Ev.L Go.Proofs
set_option maxRecDepth 100000
noncomputable def Ed5:List (Nat×Sum):=[]
theorem rd6:i6 prog G Ed5:=trivial
noncomputable def Na5 (x:Pln) (y:Pt):Int:=(W ((W ((W ((W (x.b*y.pw)) - (W (x.n.x*y.px)))) - (W (x.n.y*y.py)))) - (W (x.n.z*y.pz))))
noncomputable def Hb5:Sum:=pa2 (S4 tP) (S4 tX) (fun x y=>.ret ((one r1I).enc (Na5 x y),[]))
theorem Sb9:g9 prog G 37 Hb5:=Ga0 (bd b37 rd6) fun x y=>s6 (by kernel_rfl)
noncomputable def Qd8:List (Nat×Sum):=[]
theorem Ed6:i6 prog G Qd8:=trivial
noncomputable def lb6 (x:V3) (y:V3):V3:=(⟨(W (x.x+y.x)),(W (x.y+y.y)),(W (x.z+y.z))⟩:V3)
noncomputable def ld0:Sum:=pa2 (S4 tV) (S4 tV) (fun x y=>.ret ((one r1V).enc (lb6 x y),[]))
theorem Qd9:g9 prog G 126 ld0:=Ga0 (bd if5 Ed6) fun x y=>s6 (by kernel_rfl)
noncomputable def Rd0:List (Nat×Sum):=[]
theorem Ed7:i6 prog G Rd0:=trivial
noncomputable def Oa6 (x:V3) (y:V3):Int:=(W ((W ((W (x.x*y.x))+(W (x.y*y.y))))+(W (x.z*y.z))))
noncomputable def Zb4:Sum:=pa2 (S4 tV) (S4 tV) (fun x y=>.ret ((one r1I).enc (Oa6 x y),[]))
theorem hc9:g9 prog G 130 Zb4:=Ga0 (bd if7 Ed7) fun x y=>s6 (by kernel_rfl)
noncomputable def rd7:List (Nat×Sum):=[]
theorem ad2:i6 prog G rd7:=trivial
noncomputable def U9 (x:V3) (y:V3):V3:=(⟨(W ((W (x.y*y.z)) - (W (x.z*y.y)))),(W ((W (x.z*y.x)) - (W (x.x*y.z)))),(W ((W (x.x*y.y)) - (W (x.y*y.x))))⟩:V3)
noncomputable def Tb0:Sum:=pa2 (S4 tV) (S4 tV) (fun x y=>.ret ((one r1V).enc (U9 x y),[]))
theorem oc8:g9 prog G 186 Tb0:=Ga0 (bd lf1 ad2) fun x y=>s6 (by kernel_rfl)
noncomputable def ad3:List (Nat×Sum):=[]
theorem Pc9:i6 prog G ad3:=trivial
noncomputable def S5 (x:V3) (y:Int):V3:=(⟨(W (x.x*y)),(W (x.y*y)),(W (x.z*y))⟩:V3)
noncomputable def oc9:Sum:=pa2 (S4 tV) cI (fun x y=>.ret ((one r1V).enc (S5 x y),[]))
theorem ad4:g9 prog G 219 oc9:=Ga0 (bd lf9 Pc9) fun x y=>s6 (by kernel_rfl)
noncomputable def ec1:List (Nat×Sum):=[]
theorem Qc0:i6 prog G ec1:=trivial
structure Ba5 where
structure aa6 where
 is0:Int
 is1:Int
noncomputable def Fc2 (p:Ba5) (s:aa6):St:=⟨((i s.is0)::((i s.is1)::(ra 10 []))),[]⟩
noncomputable def ra5 {α:Type} (k:aa6→α) (e:Nat→α) (z:α) (p:Ba5) (s:aa6):α:=(sl (s.is1 != 0) (sl (s.is1==0) z (k ⟨s.is1,(Int.tmod s.is0 s.is1)⟩)) (e 1))
noncomputable def wa4 (p:Ba5) (s:aa6):Stp aa6:=ra5 .next .exit .fail p s
noncomputable def nb8:Lo Ba5 aa6:=⟨En ec1,0,Je4,[1,0,4,4],[0,1],.p,[⟨((.s (.o (.int .i64)))::((.s (.o (.int .i64)))::(ru2 10 []))),[],fun a H=>(⟨⟩,⟨(toI (slT a 0)),(toI (slT a 1))⟩)⟩],wa4,[(some 0,fun p s=>⟨((i s.is0)::((i s.is1)::(ra 3 ((i s.is1)::((b (s.is1 != 0))::(ra 5 [])))))),[]⟩)],Fc2⟩
theorem Fc3:nb8.Ok:=Lo.ok [] (by kernel_rfl) .nil rfl (.cons (fun a H=>by kernel_rfl) .nil) fun p s=>(.of @ra5 (fun F _ _ _ _ _=>by unfold ra5;(repeat' apply k9 (f:=F))<;>rfl) (by kernel_rfl))
noncomputable def Ra0 (x:Int) (y:Int):Option (b7×List b8):=let t1:=(lp (wa4 (⟨⟩:Ba5)) (⟨x,y⟩:aa6));(sl (Nat.beq t1.1 1) (some ((i t1.2.is0),[])) none)
noncomputable def S6 (x:Int) (y:Int):Int:=L4 (one r1I) (Ra0 x y)
noncomputable def S7 (x:Int) (y:Int):Bool:=okO (one r1I) (Ra0 x y)
noncomputable def pc0:Sum:=pa2 cI cI (fun x y=>.guard (S7 x y) (.ret ((one r1I).enc (S6 x y),[])))
theorem ad5:g9 prog G 220 pc0:=ib8 (bd mf0 Qc0) (one r1I) (o:=Ra0) fun x y=>ua4 (.s .p (.s (.b (.u nb8.ls)) .p)) [nb8.pr] (by kernel_rfl) (.cons Fc3 .nil) (by kernel_rfl)
noncomputable def Ed8:List (Nat×Sum):=[(186,Tb0),(130,Zb4),(219,oc9),(126,ld0),(220,pc0)]
theorem rd8:i6 prog G Ed8:=⟨oc8,hc9,ad4,Qd9,ad5,trivial⟩
noncomputable def nb9 (x:Pln) (y:Pln) (z:Pln):Option (b7×List b8):=let t1:=(U9 y.n z.n);let t2:=(Oa6 x.n t1);let t3:=(S5 t1 x.b);let t4:=(U9 z.n x.n);let t5:=(S5 t4 y.b);let t6:=(lb6 t3 t5);let t7:=(U9 x.n y.n);let t8:=(S5 t7 z.b);let t9:=(lb6 t6 t8);let t10:=(S5 t9 (-1));let t11:=(S6 (if (W (0 - t10.x)) > t10.x then (W (0 - t10.x)) else t10.x) (if (W (0 - t10.y)) > t10.y then (W (0 - t10.y)) else t10.y));let t12:=(S6 (if (W (0 - t10.z)) > t10.z then (W (0 - t10.z)) else t10.z) (W (0 - t2)));let t13:=(S6 t11 t12);let t14:=(S6 (if (W (0 - t9.x)) > t9.x then (W (0 - t9.x)) else t9.x) (if (W (0 - t9.y)) > t9.y then (W (0 - t9.y)) else t9.y));let t15:=(S6 (if (W (0 - t9.z)) > t9.z then (W (0 - t9.z)) else t9.z) t2);let t16:=(S6 t14 t15);(sl (t2==0) (some ((.tup [(.agg [(i 0),(i 0),(i 0),(i 0)]),(b false)]),[])) (sl (decide (t2 < 0)) (sl (S7 (if (W (0 - t10.x)) > t10.x then (W (0 - t10.x)) else t10.x) (if (W (0 - t10.y)) > t10.y then (W (0 - t10.y)) else t10.y)) (sl (S7 (if (W (0 - t10.z)) > t10.z then (W (0 - t10.z)) else t10.z) (W (0 - t2))) (sl (S7 t11 t12) (sl (t13==0) none (sl (t13==0) none (sl (t13==0) none (sl (t13==0) none (some ((.tup [(.agg [(i (W (Int.tdiv t10.x t13))),(i (W (Int.tdiv t10.y t13))),(i (W (Int.tdiv t10.z t13))),(i (W (Int.tdiv (W (0 - t2)) t13)))]),(b true)]),[])))))) none) none) none) (sl (S7 (if (W (0 - t9.x)) > t9.x then (W (0 - t9.x)) else t9.x) (if (W (0 - t9.y)) > t9.y then (W (0 - t9.y)) else t9.y)) (sl (S7 (if (W (0 - t9.z)) > t9.z then (W (0 - t9.z)) else t9.z) t2) (sl (S7 t14 t15) (sl (t16==0) none (sl (t16==0) none (sl (t16==0) none (sl (t16==0) none (some ((.tup [(.agg [(i (W (Int.tdiv t9.x t16))),(i (W (Int.tdiv t9.y t16))),(i (W (Int.tdiv t9.z t16))),(i (W (Int.tdiv t2 t16)))]),(b true)]),[])))))) none) none) none)))
noncomputable def ob0 (x:Pln) (y:Pln) (z:Pln):Pt×Bool:=L4 (two r1X r1B) (nb9 x y z)
noncomputable def ob1 (x:Pln) (y:Pln) (z:Pln):Bool:=okO (two r1X r1B) (nb9 x y z)
noncomputable def Qc1:Sum:=Zc9 (S4 tP) (S4 tP) (S4 tP) (fun x y z=>.guard (ob1 x y z) (.ret ((two r1X r1B).enc (ob0 x y z),[])))
theorem Ed9:g9 prog G 172 Qc1:=Ne3 (bd jf8 rd8) (two r1X r1B) (o:=nb9) fun x y z=>s6 (by kernel_rfl)
noncomputable def ld1:List (Nat×Sum):=[(37,Hb5)]
theorem Rd1:i6 prog G ld1:=⟨Sb9,trivial⟩
structure ob2 where
 c7:List Pln
 f9:Int
 b9:Int
 g7:Int
 d9:Int
structure ua9 where
 is5:Int
noncomputable def Fd0 (p:ob2) (s:ua9):St:=⟨((eL tP p.c7)::(.unk::(.unk::((.ptr 0 0 0 0)::(.unk::((i s.is5)::(ra 13 []))))))),[⟨0,4,[[(i p.f9),(i p.b9),(i p.g7),(i p.d9)]],true,false,0⟩]⟩
noncomputable def Ra1 {α:Type} (k:ua9→α) (e:Nat→α) (z:α) (p:ob2) (s:ua9):α:=let t1:=(Na5 (gL tP p.c7 s.is5.toNat) (⟨p.f9,p.b9,p.g7,p.d9⟩:Pt));(sl (decide (s.is5 < (↑(List.length p.c7):Int))) (sl (inB s.is5 (List.length p.c7)) (sl (decide (t1 < 0)) (e 1) (k ⟨(W (s.is5+1))⟩)) z) (e 2))
noncomputable def ab4 (p:ob2) (s:ua9):Stp ua9:=Ra1 .next .exit .fail p s
noncomputable def ic0:Lo ob2 ua9:=⟨En ld1,0,Ie0,[1,0,1,4,4],[0,3,5],.p,[⟨((.s (.c 4 (nL tP)))::((.s (.o .unk))::((.s (.o .unk))::((.s (.o (.ptr 0 0 0 0)))::((.s (.o .unk))::((.s (.o (.int .i64)))::(ru2 13 []))))))),[⟨0,4,true,(some [[(.o (.int .i64)),(.o (.int .i64)),(.o (.int .i64)),(.o (.int .i64))]])⟩],fun a H=>(⟨(rL tP (slT a 0)),(toI (slT (rwT (elT H 0) 0) 0)),(toI (slT (rwT (elT H 0) 0) 1)),(toI (slT (rwT (elT H 0) 0) 2)),(toI (slT (rwT (elT H 0) 0) 3))⟩,⟨(toI (slT a 5))⟩)⟩],ab4,[(none,fun p s=>⟨[(b false)],[]⟩),(some 0,fun p s=>⟨((eL tP p.c7)::(.unk::(.unk::((.ptr 0 0 0 0)::(.unk::((i s.is5)::((i s.is5)::((eL tP p.c7)::((i (↑(List.length p.c7):Int))::((b (decide (s.is5 < (↑(List.length p.c7):Int))))::(ra 9 []))))))))))),[⟨0,4,[[(i p.f9),(i p.b9),(i p.g7),(i p.d9)]],true,false,0⟩]⟩)],Fd0⟩
theorem Fd1:ic0.Ok:=Lo.ok [] (by kernel_rfl) .nil rfl (.cons (fun a H=>by kernel_rfl) .nil) fun p s=>(.of @Ra1 (fun F _ _ _ _ _=>by unfold Ra1;(repeat' apply k9 (f:=F))<;>rfl) (by kernel_rfl))
noncomputable def Tb1 (x:List Pln) (y:Pt):Option (b7×List b8):=let t1:=(lp (ab4 (⟨(rt tP x),y.px,y.py,y.pz,y.pw⟩:ob2)) (⟨0⟩:ua9));(sl ((cnE tP x)&&true) (sl (Nat.beq t1.1 1) (some ((b false),[])) (sl (Nat.beq t1.1 2) (some ((b true),[])) none)) none)
noncomputable def ob3 (x:List Pln) (y:Pt):Bool:=L4 (one r1B) (Tb1 x y)
noncomputable def ob4 (x:List Pln) (y:Pt):Bool:=okO (one r1B) (Tb1 x y)
noncomputable def Qc2:Sum:=pa2 (X5 tP) (S4 tX) (fun x y=>.guard (ob4 x y) (.ret ((one r1B).enc (ob3 x y),[])))
theorem ld2:g9 prog G 110 Qc2:=ib8 (bd hf8 Rd1) (one r1B) (o:=Tb1) fun x y=>ua4 (.s .p (.s (.s .p (.b (.u ic0.ls))) .p)) [ic0.pr] (by kernel_rfl) (.cons Fd1 .nil) (by kernel_rfl)
noncomputable def pc1:List (Nat×Sum):=[]
theorem ad6:i6 prog G pc1:=trivial
structure Ja0 where
 C5:List Pt
 f9:Int
 b9:Int
 g7:Int
 d9:Int
structure Z1 where
 is5:Int
noncomputable def Qc3 (p:Ja0) (s:Z1):St:=⟨((eL tX p.C5)::(.unk::(.unk::((.ptr 0 0 0 0)::(.unk::((i s.is5)::(ra 12 []))))))),[⟨0,4,[[(i p.f9),(i p.b9),(i p.g7),(i p.d9)]],true,false,0⟩]⟩
noncomputable def wa5 {α:Type} (k:Z1→α) (e:Nat→α) (z:α) (p:Ja0) (s:Z1):α:=(sl (decide (s.is5 < (↑(List.length p.C5):Int))) (sl (inB s.is5 (List.length p.C5)) (sl (((gL tX p.C5 s.is5.toNat).px==p.f9)&&(((gL tX p.C5 s.is5.toNat).py==p.b9)&&(((gL tX p.C5 s.is5.toNat).pz==p.g7)&&(((gL tX p.C5 s.is5.toNat).pw==p.d9)&&true)))) (e 1) (k ⟨(W (s.is5+1))⟩)) z) (e 2))
noncomputable def Ba6 (p:Ja0) (s:Z1):Stp Z1:=wa5 .next .exit .fail p s
noncomputable def yb4:Lo Ja0 Z1:=⟨En pc1,0,Ie5,[1,0,1,4,4],[0,3,5],.p,[⟨((.s (.c 4 (nL tX)))::((.s (.o .unk))::((.s (.o .unk))::((.s (.o (.ptr 0 0 0 0)))::((.s (.o .unk))::((.s (.o (.int .i64)))::(ru2 12 []))))))),[⟨0,4,true,(some [[(.o (.int .i64)),(.o (.int .i64)),(.o (.int .i64)),(.o (.int .i64))]])⟩],fun a H=>(⟨(rL tX (slT a 0)),(toI (slT (rwT (elT H 0) 0) 0)),(toI (slT (rwT (elT H 0) 0) 1)),(toI (slT (rwT (elT H 0) 0) 2)),(toI (slT (rwT (elT H 0) 0) 3))⟩,⟨(toI (slT a 5))⟩)⟩],Ba6,[(none,fun p s=>⟨[(b true)],[]⟩),(some 0,fun p s=>⟨((eL tX p.C5)::(.unk::(.unk::((.ptr 0 0 0 0)::(.unk::((i s.is5)::((i s.is5)::((eL tX p.C5)::((i (↑(List.length p.C5):Int))::((b (decide (s.is5 < (↑(List.length p.C5):Int))))::(ra 8 []))))))))))),[⟨0,4,[[(i p.f9),(i p.b9),(i p.g7),(i p.d9)]],true,false,0⟩]⟩)],Qc3⟩
theorem Qc4:yb4.Ok:=Lo.ok [] (by kernel_rfl) .nil rfl (.cons (fun a H=>by kernel_rfl) .nil) fun p s=>(.of @wa5 (fun F _ _ _ _ _=>by unfold wa5;(repeat' apply k9 (f:=F))<;>rfl) (by kernel_rfl))
noncomputable def ab5 (x:List Pt) (y:Pt):Option (b7×List b8):=let t1:=(lp (Ba6 (⟨(rt tX x),y.px,y.py,y.pz,y.pw⟩:Ja0)) (⟨0⟩:Z1));(sl ((cnE tX x)&&true) (sl (Nat.beq t1.1 1) (some ((b true),[])) (sl (Nat.beq t1.1 2) (some ((b false),[])) none)) none)
noncomputable def Oa7 (x:List Pt) (y:Pt):Bool:=L4 (one r1B) (ab5 x y)
noncomputable def Oa8 (x:List Pt) (y:Pt):Bool:=okO (one r1B) (ab5 x y)
noncomputable def Cc4:Sum:=pa2 (X5 tX) (S4 tX) (fun x y=>.guard (Oa8 x y) (.ret ((one r1B).enc (Oa7 x y),[])))
theorem rd9:g9 prog G 173 Cc4:=ib8 (bd jf9 ad6) (one r1B) (o:=ab5) fun x y=>ua4 (.s .p (.s (.s .p (.b (.u yb4.ls))) .p)) [yb4.pr] (by kernel_rfl) (.cons Qc4 .nil) (by kernel_rfl)
noncomputable def Ra2:List (Nat×Sum):=[(172,Qc1),(110,Qc2),(173,Cc4)]
theorem Fc4:i6 prog G Ra2:=⟨Ed9,ld2,rd9,trivial⟩
structure N9 where
 c7:List Pln
 is4:Int
 is5:Int
structure r7 where
 ph:Nat
 is6:Int
 ns3:Nat
 eh0:List (List b7)
noncomputable def pc2 (p:N9) (s:r7):St:=⟨((eL tP p.c7)::(.unk::(.unk::((.v (.slice none 0 0))::((i p.is4)::((i p.is5)::((i s.is6)::(ra 57 [])))))))),[]⟩
noncomputable def pc3 (p:N9) (s:r7):St:=⟨((eL tP p.c7)::(.unk::(.unk::((.sl 0 0 s.ns3 0)::((i p.is4)::((i p.is5)::((i s.is6)::(ra 57 [])))))))),[⟨54,4,s.eh0,true,false,0⟩]⟩
noncomputable def xc3 (p:N9) (s:r7):St:=(sel (Nat.beq s.ph 1) (pc3 p s) (pc2 p s))
noncomputable def S8 {α:Type} (k:r7→α) (e:Nat→α) (z:α) (p:N9) (s:r7):α:=let t1:=(ob0 (gL tP p.c7 p.is4.toNat) (gL tP p.c7 p.is5.toNat) (gL tP p.c7 s.is6.toNat));let t2:=(ob3 (rt tP p.c7) t1.1);let t3:=(Oa7 [] t1.1);(sl (decide (s.is6 < (↑(List.length p.c7):Int))) (sl (inB p.is4 (List.length p.c7)) (sl (inB p.is5 (List.length p.c7)) (sl (inB s.is6 (List.length p.c7)) (sl (ob1 (gL tP p.c7 p.is4.toNat) (gL tP p.c7 p.is5.toNat) (gL tP p.c7 s.is6.toNat)) (sl t1.2 (sl (okE tP p.c7) (sl (ob4 (rt tP p.c7) t1.1) (sl t2 (sl (Oa8 [] t1.1) (sl (!t3) (k ⟨1,(W (s.is6+1)),1,[[(i t1.1.px),(i t1.1.py),(i t1.1.pz),(i t1.1.pw)]]⟩) (k ⟨0,(W (s.is6+1)),0,[]⟩)) z) (k ⟨0,(W (s.is6+1)),0,[]⟩)) z) z) (k ⟨0,(W (s.is6+1)),0,[]⟩)) z) z) z) z) (e 1))
noncomputable def S9 {α:Type} (k:r7→α) (e:Nat→α) (z:α) (p:N9) (s:r7):α:=let t1:=(ob0 (gL tP p.c7 p.is4.toNat) (gL tP p.c7 p.is5.toNat) (gL tP p.c7 s.is6.toNat));let t2:=(ob3 (rt tP p.c7) t1.1);let t3:=(Oa7 (slR tX s.eh0 0 s.ns3) t1.1);(sl (decide (s.is6 < (↑(List.length p.c7):Int))) (sl (inB p.is4 (List.length p.c7)) (sl (inB p.is5 (List.length p.c7)) (sl (inB s.is6 (List.length p.c7)) (sl (ob1 (gL tP p.c7 p.is4.toNat) (gL tP p.c7 p.is5.toNat) (gL tP p.c7 s.is6.toNat)) (sl t1.2 (sl (okE tP p.c7) (sl (ob4 (rt tP p.c7) t1.1) (sl t2 (sl (okS tX s.eh0 0 s.ns3) (sl (Oa8 (slR tX s.eh0 0 s.ns3) t1.1) (sl (!t3) (sl (Nat.beq s.ns3 (len s.eh0)&&Nat.ble ((s.ns3+1)*32) room) (k ⟨1,(W (s.is6+1)),(s.ns3+1),(app s.eh0 [[(i t1.1.px),(i t1.1.py),(i t1.1.pz),(i t1.1.pw)]])⟩) z) (k ⟨1,(W (s.is6+1)),s.ns3,s.eh0⟩)) z) z) (k ⟨1,(W (s.is6+1)),s.ns3,s.eh0⟩)) z) z) (k ⟨1,(W (s.is6+1)),s.ns3,s.eh0⟩)) z) z) z) z) (e 2))
noncomputable def P8 (p:N9) (s:r7):Stp r7:=(sel (Nat.beq s.ph 1) (S9 .next .exit .fail p s) (S8 .next .exit .fail p s))
noncomputable def eb2:Lo N9 r7:=⟨En Ra2,0,Ae9,[1,1,0,1,4,4,1,0,4,1,4,4,1,0,4,1,4,4],[0,3,4,5,6],.p,[⟨((.s (.c 4 (nL tP)))::((.s (.o .unk))::((.s (.o .unk))::((.s (.o .nil))::((.s (.o (.int .i64)))::((.s (.o (.int .i64)))::((.s (.o (.int .i64)))::(ru2 57 [])))))))),[],fun a H=>(⟨(rL tP (slT a 0)),(toI (slT a 4)),(toI (slT a 5))⟩,⟨0,(toI (slT a 6)),0,[]⟩)⟩,⟨((.s (.c 4 (nL tP)))::((.s (.o .unk))::((.s (.o .unk))::((.s (.o (.sl 0 0 (some 0) none)))::((.s (.o (.int .i64)))::((.s (.o (.int .i64)))::((.s (.o (.int .i64)))::(ru2 57 [])))))))),[⟨54,4,true,none⟩],fun a H=>(⟨(rL tP (slT a 0)),(toI (slT a 4)),(toI (slT a 5))⟩,⟨1,(toI (slT a 6)),(slN (slT a 3)),(elT H 0)⟩)⟩],P8,[(some 4,fun p s=>⟨((eL tP p.c7)::(.unk::(.unk::((.v (.slice none 0 0))::((i p.is4)::((i p.is5)::((i s.is6)::(ra 18 ((i s.is6)::((eL tP p.c7)::((i (↑(List.length p.c7):Int))::((b (decide (s.is6 < (↑(List.length p.c7):Int))))::(ra 35 []))))))))))))),[]⟩),(some 4,fun p s=>⟨((eL tP p.c7)::(.unk::(.unk::((.sl 0 0 s.ns3 0)::((i p.is4)::((i p.is5)::((i s.is6)::(ra 18 ((i s.is6)::((eL tP p.c7)::((i (↑(List.length p.c7):Int))::((b (decide (s.is6 < (↑(List.length p.c7):Int))))::(ra 35 []))))))))))))),[⟨54,4,s.eh0,true,false,0⟩]⟩)],xc3⟩
theorem xc4:eb2.Ok:=Lo.ok [] (by kernel_rfl) .nil rfl (.cons (fun a H=>by kernel_rfl) (.cons (fun a H=>by kernel_rfl) .nil)) fun p s=>(.sel (Nat.beq s.ph 1) (.of @S9 (fun F _ _ _ _ _=>by unfold S9;(repeat' apply k9 (f:=F))<;>rfl) (by kernel_rfl)) (.of @S8 (fun F _ _ _ _ _=>by unfold S8;(repeat' apply k9 (f:=F))<;>rfl) (by kernel_rfl)))
structure O0 where
 is4:Int
structure s9 where
 ph:Nat
 c7:List Pln
 is5:Int
 ns3:Nat
 eh0:List (List b7)
noncomputable def pc4 (p:O0) (s:s9):St:=⟨((eL tP s.c7)::(.unk::(.unk::((.v (.slice none 0 0))::((i p.is4)::((i s.is5)::(ra 58 []))))))),[]⟩
noncomputable def pc5 (p:O0) (s:s9):St:=⟨((eL tP s.c7)::(.unk::(.unk::((.sl 0 0 s.ns3 0)::((i p.is4)::((i s.is5)::(ra 58 []))))))),[⟨54,4,s.eh0,true,false,0⟩]⟩
noncomputable def xc5 (p:O0) (s:s9):St:=(sel (Nat.beq s.ph 1) (pc5 p s) (pc4 p s))
noncomputable def T0 {α:Type} (k:s9→α) (e:Nat→α) (z:α) (p:O0) (s:s9):α:=let t1:=(lp (P8 (⟨(rt tP s.c7),p.is4,s.is5⟩:N9)) (⟨0,(W (s.is5+1)),0,[]⟩:r7));(sl (decide (s.is5 < (↑(List.length s.c7):Int))) (sl ((cnE tP s.c7)&&true) (sl (Nat.beq t1.1 1) (k ⟨0,(rt tP s.c7),(W (s.is5+1)),0,[]⟩) (sl (Nat.beq t1.1 2) (k ⟨1,(rt tP s.c7),(W (s.is5+1)),t1.2.ns3,t1.2.eh0⟩) z)) z) (e 1))
noncomputable def T1 {α:Type} (k:s9→α) (e:Nat→α) (z:α) (p:O0) (s:s9):α:=let t1:=(lp (P8 (⟨(rt tP s.c7),p.is4,s.is5⟩:N9)) (⟨1,(W (s.is5+1)),s.ns3,s.eh0⟩:r7));(sl (decide (s.is5 < (↑(List.length s.c7):Int))) (sl ((cnE tP s.c7)&&true) (sl (Nat.beq t1.1 1) (k ⟨0,(rt tP s.c7),(W (s.is5+1)),0,[]⟩) (sl (Nat.beq t1.1 2) (k ⟨1,(rt tP s.c7),(W (s.is5+1)),t1.2.ns3,t1.2.eh0⟩) z)) z) (e 2))
noncomputable def L6 (p:O0) (s:s9):Stp s9:=(sel (Nat.beq s.ph 1) (T1 .next .exit .fail p s) (T0 .next .exit .fail p s))
noncomputable def eb3:Lo O0 s9:=⟨En Ra2,0,Ae9,[1,1,0,1,4,4,1,0,4,1,4,4],[0,3,4,5],(.s .p (.s (.b (.s .p (.b (.u eb2.ls)))) .p)),[⟨((.s (.c 4 (nL tP)))::((.s (.o .unk))::((.s (.o .unk))::((.s (.o .nil))::((.s (.o (.int .i64)))::((.s (.o (.int .i64)))::(ru2 58 []))))))),[],fun a H=>(⟨(toI (slT a 4))⟩,⟨0,(rL tP (slT a 0)),(toI (slT a 5)),0,[]⟩)⟩,⟨((.s (.c 4 (nL tP)))::((.s (.o .unk))::((.s (.o .unk))::((.s (.o (.sl 0 0 (some 0) none)))::((.s (.o (.int .i64)))::((.s (.o (.int .i64)))::(ru2 58 []))))))),[⟨54,4,true,none⟩],fun a H=>(⟨(toI (slT a 4))⟩,⟨1,(rL tP (slT a 0)),(toI (slT a 5)),(slN (slT a 3)),(elT H 0)⟩)⟩],L6,[(some 2,fun p s=>⟨((eL tP s.c7)::(.unk::(.unk::((.v (.slice none 0 0))::((i p.is4)::((i s.is5)::(ra 11 ((i s.is5)::((eL tP s.c7)::((i (↑(List.length s.c7):Int))::((b (decide (s.is5 < (↑(List.length s.c7):Int))))::(ra 43 [])))))))))))),[]⟩),(some 2,fun p s=>⟨((eL tP s.c7)::(.unk::(.unk::((.sl 0 0 s.ns3 0)::((i p.is4)::((i s.is5)::(ra 11 ((i s.is5)::((eL tP s.c7)::((i (↑(List.length s.c7):Int))::((b (decide (s.is5 < (↑(List.length s.c7):Int))))::(ra 43 [])))))))))))),[⟨54,4,s.eh0,true,false,0⟩]⟩)],xc5⟩
theorem xc6:eb3.Ok:=Lo.ok [eb2.pr] (by kernel_rfl) (.cons xc4 .nil) rfl (.cons (fun a H=>by kernel_rfl) (.cons (fun a H=>by kernel_rfl) .nil)) fun p s=>(.sel (Nat.beq s.ph 1) (.of @T1 (fun F _ _ _ _ _=>by unfold T1;(repeat' apply k9 (f:=F))<;>rfl) (by kernel_rfl)) (.of @T0 (fun F _ _ _ _ _=>by unfold T0;(repeat' apply k9 (f:=F))<;>rfl) (by kernel_rfl)))
structure V0 where
structure A6 where
 ph:Nat
 c7:List Pln
 is4:Int
 ns3:Nat
 eh0:List (List b7)
noncomputable def pc6 (p:V0) (s:A6):St:=⟨((eL tP s.c7)::(.unk::(.unk::((.v (.slice none 0 0))::((i s.is4)::(ra 59 [])))))),[]⟩
noncomputable def pc7 (p:V0) (s:A6):St:=⟨((eL tP s.c7)::(.unk::(.unk::((.sl 0 0 s.ns3 0)::((i s.is4)::(ra 59 [])))))),[⟨54,4,s.eh0,true,false,0⟩]⟩
noncomputable def xc7 (p:V0) (s:A6):St:=(sel (Nat.beq s.ph 1) (pc7 p s) (pc6 p s))
noncomputable def T2 {α:Type} (k:A6→α) (e:Nat→α) (z:α) (p:V0) (s:A6):α:=let t1:=(lp (L6 (⟨s.is4⟩:O0)) (⟨0,(rt tP s.c7),(W (s.is4+1)),0,[]⟩:s9));(sl (decide (s.is4 < (↑(List.length s.c7):Int))) (sl ((cnE tP s.c7)&&true) (sl (Nat.beq t1.1 1) (k ⟨0,t1.2.c7,(W (s.is4+1)),0,[]⟩) (sl (Nat.beq t1.1 2) (k ⟨1,t1.2.c7,(W (s.is4+1)),t1.2.ns3,t1.2.eh0⟩) z)) z) (e 1))
noncomputable def T3 {α:Type} (k:A6→α) (e:Nat→α) (z:α) (p:V0) (s:A6):α:=let t1:=(lp (L6 (⟨s.is4⟩:O0)) (⟨1,(rt tP s.c7),(W (s.is4+1)),s.ns3,s.eh0⟩:s9));(sl (decide (s.is4 < (↑(List.length s.c7):Int))) (sl ((cnE tP s.c7)&&true) (sl (Nat.beq t1.1 1) (k ⟨0,t1.2.c7,(W (s.is4+1)),0,[]⟩) (sl (Nat.beq t1.1 2) (k ⟨1,t1.2.c7,(W (s.is4+1)),t1.2.ns3,t1.2.eh0⟩) z)) z) (e 2))
noncomputable def P9 (p:V0) (s:A6):Stp A6:=(sel (Nat.beq s.ph 1) (T3 .next .exit .fail p s) (T2 .next .exit .fail p s))
noncomputable def eb4:Lo V0 A6:=⟨En Ra2,0,Ae9,[1,1,0,1,4,4],[0,3,4],(.s .p (.s (.b (.s .p (.b (.u eb3.ls)))) .p)),[⟨((.s (.c 4 (nL tP)))::((.s (.o .unk))::((.s (.o .unk))::((.s (.o .nil))::((.s (.o (.int .i64)))::(ru2 59 [])))))),[],fun a H=>(⟨⟩,⟨0,(rL tP (slT a 0)),(toI (slT a 4)),0,[]⟩)⟩,⟨((.s (.c 4 (nL tP)))::((.s (.o .unk))::((.s (.o .unk))::((.s (.o (.sl 0 0 (some 0) none)))::((.s (.o (.int .i64)))::(ru2 59 [])))))),[⟨54,4,true,none⟩],fun a H=>(⟨⟩,⟨1,(rL tP (slT a 0)),(toI (slT a 4)),(slN (slT a 3)),(elT H 0)⟩)⟩],P9,[(some 0,fun p s=>⟨((eL tP s.c7)::(.unk::(.unk::((.v (.slice none 0 0))::((i s.is4)::(ra 4 ((i s.is4)::((eL tP s.c7)::((i (↑(List.length s.c7):Int))::((b (decide (s.is4 < (↑(List.length s.c7):Int))))::(ra 51 []))))))))))),[]⟩),(some 0,fun p s=>⟨((eL tP s.c7)::(.unk::(.unk::((.sl 0 0 s.ns3 0)::((i s.is4)::(ra 4 ((i s.is4)::((eL tP s.c7)::((i (↑(List.length s.c7):Int))::((b (decide (s.is4 < (↑(List.length s.c7):Int))))::(ra 51 []))))))))))),[⟨54,4,s.eh0,true,false,0⟩]⟩)],xc7⟩
theorem xc8:eb4.Ok:=Lo.ok [eb3.pr] (by kernel_rfl) (.cons xc6 .nil) rfl (.cons (fun a H=>by kernel_rfl) (.cons (fun a H=>by kernel_rfl) .nil)) fun p s=>(.sel (Nat.beq s.ph 1) (.of @T3 (fun F _ _ _ _ _=>by unfold T3;(repeat' apply k9 (f:=F))<;>rfl) (by kernel_rfl)) (.of @T2 (fun F _ _ _ _ _=>by unfold T2;(repeat' apply k9 (f:=F))<;>rfl) (by kernel_rfl)))
noncomputable def Ja1 (x:List Pln):Option (b7×List b8):=let t1:=(lp (P9 (⟨⟩:V0)) (⟨0,(rt tP x),0,0,[]⟩:A6));(sl ((cnE tP x)&&true) (sl (Nat.beq t1.1 1) (some ((.v (.slice none 0 0)),[])) (sl (Nat.beq t1.1 2) (some ((.sl 0 0 t1.2.ns3 0),[⟨54,4,t1.2.eh0,true,false,0⟩])) none)) none)
noncomputable def Ja2 (x:List Pln):List Pt:=L4 (one (r1L tX)) (Ja1 x)
noncomputable def Ja3 (x:List Pln):Bool:=okO (one (r1L tX)) (Ja1 x)
noncomputable def yb5:Sum:=S3 (X5 tP) (fun x=>.guard (Ja3 x) (.ret ((one (r1L tX)).enc (Ja2 x),[])))
theorem Tb2:g9 prog G 90 yb5:=Aa9 (bd b90 Fc4) (one (r1L tX)) (o:=Ja1) fun x=>ua4 (.s .p (.s .p (.s (.s .p (.b (.u eb4.ls))) .p))) [eb4.pr] (by kernel_rfl) (.cons xc8 .nil) (by kernel_rfl)
noncomputable def wb5:List (Nat×Sum):=[]
theorem ic1:i6 prog G wb5:=trivial
@[reducible] noncomputable def Ga1:Sum:=i8 (En wb5) Ie2
theorem Ra3:g9 prog G 166 Ga1:=bd jf2 ic1
noncomputable def Fc5:List (Nat×Sum):=[]
theorem xc9:i6 prog G Fc5:=trivial
noncomputable def Ba7 (x:Int):Option (b7×List b8):=(sl (decide (x < 0)) (some ((i (W (0 - x))),[])) (some ((i x),[])))
noncomputable def ra6 (x:Int):Int:=L4 (one r1I) (Ba7 x)
noncomputable def ra7 (x:Int):Bool:=okO (one r1I) (Ba7 x)
noncomputable def Tb3:Sum:=S3 cI (fun x=>.guard (ra7 x) (.ret ((one r1I).enc (ra6 x),[])))
theorem Fc6:g9 prog G 215 Tb3:=Aa9 (bd lf6 xc9) (one r1I) (o:=Ba7) fun x=>s6 (by kernel_rfl)
noncomputable def Cc5:List (Nat×Sum):=[(215,Tb3),(166,Ga1)]
theorem sd0:i6 prog G Cc5:=⟨Fc6,Ra3,trivial⟩
structure ma6 where
 is6:Int
 f9:Int
 b9:Int
 g7:Int
 ha5:Int
 ha6:Int
 ha7:Int
structure T4 where
 is5:Int
 is7:Int
noncomputable def ad7 (p:ma6) (s:T4):St:=⟨(.unk::((.ptr 0 0 0 0)::((.ptr 1 0 0 0)::(.unk::((.ptr 2 0 0 0)::((i s.is5)::((i p.is6)::((i s.is7)::(ra 38 []))))))))),[⟨0,3,[[(i p.f9),(i p.b9),(i p.g7)]],true,false,0⟩,⟨0,3,[[(i 0),(i 0),(i 0)]],true,false,0⟩,⟨0,3,[[(i p.ha5),(i p.ha6),(i p.ha7)]],true,false,0⟩]⟩
noncomputable def Ba8 {α:Type} (k:T4→α) (e:Nat→α) (z:α) (p:ma6) (s:T4):α:=(sl (decide (s.is7 > 0)) (sl (s.is7==0) z (k ⟨s.is7,(Int.tmod s.is5 s.is7)⟩)) (e 1))
noncomputable def ha8 (p:ma6) (s:T4):Stp T4:=Ba8 .next .exit .fail p s
noncomputable def Hb6:Lo ma6 T4:=⟨En Cc5,0,Ie3,[1,1,1,0,1,4,4,1,0,4,1,1,4,4],[1,2,4,5,6,7],.p,[⟨((.s (.o .unk))::((.s (.o (.ptr 0 0 0 0)))::((.s (.o (.ptr 1 0 0 0)))::((.s (.o .unk))::((.s (.o (.ptr 2 0 0 0)))::((.s (.o (.int .i64)))::((.s (.o (.int .i64)))::((.s (.o (.int .i64)))::(ru2 38 []))))))))),[⟨0,3,true,(some [[(.o (.int .i64)),(.o (.int .i64)),(.o (.int .i64))]])⟩,⟨0,3,true,(some [[(.o (.lit .i64 0)),(.o (.lit .i64 0)),(.o (.lit .i64 0))]])⟩,⟨0,3,true,(some [[(.o (.int .i64)),(.o (.int .i64)),(.o (.int .i64))]])⟩],fun a H=>(⟨(toI (slT a 6)),(toI (slT (rwT (elT H 0) 0) 0)),(toI (slT (rwT (elT H 0) 0) 1)),(toI (slT (rwT (elT H 0) 0) 2)),(toI (slT (rwT (elT H 2) 0) 0)),(toI (slT (rwT (elT H 2) 0) 1)),(toI (slT (rwT (elT H 2) 0) 2))⟩,⟨(toI (slT a 5)),(toI (slT a 7))⟩)⟩],ha8,[(some 2,fun p s=>⟨(.unk::((.ptr 0 0 0 0)::((.ptr 1 0 0 0)::(.unk::((.ptr 2 0 0 0)::((i s.is5)::((i p.is6)::((i s.is7)::(ra 15 ((i s.is7)::((b (decide (s.is7 > 0)))::(ra 21 [])))))))))))),[⟨0,3,[[(i p.f9),(i p.b9),(i p.g7)]],true,false,0⟩,⟨0,3,[[(i 0),(i 0),(i 0)]],true,false,0⟩,⟨0,3,[[(i p.ha5),(i p.ha6),(i p.ha7)]],true,false,0⟩]⟩)],ad7⟩
theorem ad8:Hb6.Ok:=Lo.ok [] (by kernel_rfl) .nil rfl (.cons (fun a H=>by kernel_rfl) .nil) fun p s=>(.of @Ba8 (fun F _ _ _ _ _=>by unfold Ba8;(repeat' apply k9 (f:=F))<;>rfl) (by kernel_rfl))
noncomputable def ob5 (x:V3):Option (b7×List b8):=let t1:=(ra6 x.x);let t2:=(lp (ha8 (⟨0,x.x,x.y,x.z,x.x,x.y,x.z⟩:ma6)) (⟨0,t1⟩:T4));let t3:=(ra6 x.y);let t4:=(lp (ha8 (⟨1,x.x,x.y,x.z,x.x,x.y,x.z⟩:ma6)) (⟨t2.2.is5,t3⟩:T4));let t5:=(ra6 x.z);let t6:=(lp (ha8 (⟨2,x.x,x.y,x.z,x.x,x.y,x.z⟩:ma6)) (⟨t4.2.is5,t5⟩:T4));(sl (x.x==(-9223372036854775808)) (some ((.tup [(.agg [(i 0),(i 0),(i 0)]),(i 0)]),[])) (sl (ra7 x.x) (sl (Nat.beq t2.1 1) (sl (x.y==(-9223372036854775808)) (some ((.tup [(.agg [(i 0),(i 0),(i 0)]),(i 0)]),[])) (sl (ra7 x.y) (sl (Nat.beq t4.1 1) (sl (x.z==(-9223372036854775808)) (some ((.tup [(.agg [(i 0),(i 0),(i 0)]),(i 0)]),[])) (sl (ra7 x.z) (sl (Nat.beq t6.1 1) (sl (t6.2.is5==0) (some ((.tup [(.agg [(i 0),(i 0),(i 0)]),(i 0)]),[])) (sl (t6.2.is5==0) none (sl (t6.2.is5==0) none (sl (t6.2.is5==0) none (some ((.tup [(.agg [(i (W (Int.tdiv x.x t6.2.is5))),(i (W (Int.tdiv x.y t6.2.is5))),(i (W (Int.tdiv x.z t6.2.is5)))]),(i t6.2.is5)]),[])))))) none) none)) none) none)) none) none))
noncomputable def Na6 (x:V3):V3×Int:=L4 (two r1V r1I) (ob5 x)
noncomputable def ob6 (x:V3):Bool:=okO (two r1V r1I) (ob5 x)
noncomputable def ic2:Sum:=S3 (S4 tV) (fun x=>.guard (ob6 x) (.ret ((two r1V r1I).enc (Na6 x),[])))
theorem Cc6:g9 prog G 167 ic2:=Aa9 (bd jf3 sd0) (two r1V r1I) (o:=ob5) fun x=>ua4 (.s .p (.s .p (.s .p (.s (.s .p (.b (.l (.s .p (.s (.b (.s .p (.s .p (.b (.u Hb6.ls))))) .p))))) .p)))) [Hb6.pr] (by kernel_rfl) (.cons ad8 .nil) (by kernel_rfl)
noncomputable def sd1:List (Nat×Sum):=[(167,ic2),(166,Ga1)]
theorem ad9:i6 prog G sd1:=⟨Cc6,Ra3,trivial⟩
noncomputable def ab6 (x:Pln):Option (b7×List b8):=let t1:=(Na6 x.n);(sl (decide (x.n.x < (-4608))) (some ((b false),[])) (sl (decide (x.n.x > 4608)) (some ((b false),[])) (sl (decide (x.n.y < (-4608))) (some ((b false),[])) (sl (decide (x.n.y > 4608)) (some ((b false),[])) (sl (decide (x.n.z < (-4608))) (some ((b false),[])) (sl (decide (x.n.z > 4608)) (some ((b false),[])) (sl (ob6 x.n) (sl (t1.2==1) (sl (decide (x.b≥(-2097152))) (some ((b (decide (x.b≤2097152))),[])) (some ((b false),[]))) (some ((b false),[]))) none)))))))
noncomputable def ab7 (x:Pln):Bool:=L4 (one r1B) (ab6 x)
noncomputable def ab8 (x:Pln):Bool:=okO (one r1B) (ab6 x)
noncomputable def Tb4:Sum:=S3 (S4 tP) (fun x=>.guard (ab8 x) (.ret ((one r1B).enc (ab7 x),[])))
theorem pc8:g9 prog G 86 Tb4:=Aa9 (bd b86 ad9) (one r1B) (o:=ab6) fun x=>s6 (by kernel_rfl)
noncomputable def pc9:List (Nat×Sum):=[(86,Tb4)]
theorem bd0:i6 prog G pc9:=⟨pc8,trivial⟩
structure Ja4 where
 c7:List Pln
structure Z2 where
 is3:Int
noncomputable def Qc5 (p:Ja4) (s:Z2):St:=⟨((eL tP p.c7)::(.unk::(.unk::((i s.is3)::(ra 15 []))))),[]⟩
noncomputable def wa6 {α:Type} (k:Z2→α) (e:Nat→α) (z:α) (p:Ja4) (s:Z2):α:=let t1:=(ab7 (gL tP p.c7 s.is3.toNat));(sl (decide (s.is3 < (↑(List.length p.c7):Int))) (sl (inB s.is3 (List.length p.c7)) (sl (ab8 (gL tP p.c7 s.is3.toNat)) (sl (!t1) (e 1) (k ⟨(W (s.is3+1))⟩)) z) z) (e 2))
noncomputable def Ba9 (p:Ja4) (s:Z2):Stp Z2:=wa6 .next .exit .fail p s
noncomputable def yb6:Lo Ja4 Z2:=⟨En pc9,0,Ve7,[1,1,0,1,4,4],[0,3],.p,[⟨((.s (.c 4 (nL tP)))::((.s (.o .unk))::((.s (.o .unk))::((.s (.o (.int .i64)))::(ru2 15 []))))),[],fun a H=>(⟨(rL tP (slT a 0))⟩,⟨(toI (slT a 3))⟩)⟩],Ba9,[(none,fun p s=>⟨[(i 12)],[]⟩),(some 0,fun p s=>⟨((eL tP p.c7)::(.unk::(.unk::((i s.is3)::(ra 3 ((i s.is3)::((eL tP p.c7)::((i (↑(List.length p.c7):Int))::((b (decide (s.is3 < (↑(List.length p.c7):Int))))::(ra 8 [])))))))))),[]⟩)],Qc5⟩
theorem Qc6:yb6.Ok:=Lo.ok [] (by kernel_rfl) .nil rfl (.cons (fun a H=>by kernel_rfl) .nil) fun p s=>(.of @wa6 (fun F _ _ _ _ _=>by unfold wa6;(repeat' apply k9 (f:=F))<;>rfl) (by kernel_rfl))
noncomputable def ab9 (x:List Pln):Option (b7×List b8):=let t1:=(lp (Ba9 (⟨(rt tP x)⟩:Ja4)) (⟨0⟩:Z2));(sl (decide ((↑(List.length x):Int) > 48)) (some ((i 2),[])) (sl ((cnE tP x)&&true) (sl (Nat.beq t1.1 1) (some ((i 12),[])) (sl (Nat.beq t1.1 2) (some ((i 0),[])) none)) none))
noncomputable def Oa9 (x:List Pln):Int:=L4 (one r1I) (ab9 x)
noncomputable def Pa0 (x:List Pln):Bool:=okO (one r1I) (ab9 x)
noncomputable def wb6:Sum:=S3 (X5 tP) (fun x=>.guard (Pa0 x) (.ret ((one r1I).enc (Oa9 x),[])))
theorem Hb7:g9 prog G 16 wb6:=Aa9 (bd b16 bd0) (one r1I) (o:=ab9) fun x=>ua4 (.s .p (.s .p (.s (.s .p (.b (.u yb6.ls))) .p))) [yb6.pr] (by kernel_rfl) (.cons Qc6 .nil) (by kernel_rfl)
noncomputable def Rd2:List (Nat×Sum):=[]
theorem Fd2:i6 prog G Rd2:=trivial
noncomputable def Zb5 (x:V3) (y:V3):Option (b7×List b8):=(some ((.sl 0 0 6 0),[⟨50,4,[[(i 1),(i 0),(i 0),(i y.x)],[(i (-1)),(i 0),(i 0),(i (W (0 - x.x)))],[(i 0),(i 1),(i 0),(i y.y)],[(i 0),(i (-1)),(i 0),(i (W (0 - x.y)))],[(i 0),(i 0),(i 1),(i y.z)],[(i 0),(i 0),(i (-1)),(i (W (0 - x.z)))]],true,false,0⟩]))
noncomputable def Cb6 (x:V3) (y:V3):List Pln:=L4 (one (r1L tP)) (Zb5 x y)
noncomputable def lb7 (x:V3) (y:V3):Bool:=okO (one (r1L tP)) (Zb5 x y)
noncomputable def yc0:Sum:=pa2 (S4 tV) (S4 tV) (fun x y=>.guard (lb7 x y) (.ret ((one (r1L tP)).enc (Cb6 x y),[])))
theorem Qc7:g9 prog G 111 yc0:=ib8 (bd Ze8 Fd2) (one (r1L tP)) (o:=Zb5) fun x y=>s6 (by kernel_rfl)
noncomputable def Rd3:List (Nat×Sum):=[(111,yc0)]
theorem Fd3:i6 prog G Rd3:=⟨Qc7,trivial⟩
noncomputable def Cb7 (x:List Pln):Option (b7×List b8):=let t1:=(Cb6 (⟨(-24),(-24),(-24)⟩:V3) (⟨24,24,24⟩:V3));(sl (Nat.beq (len (o0 (fun k=>(tP).row (gL tP x k)) (List.range (List.length x)))) 0) (sl (lb7 (⟨(-24),(-24),(-24)⟩:V3) (⟨24,24,24⟩:V3)) (sl (Nat.beq (len (o0 (fun k=>(tP).row (gL tP t1 k)) (List.range (List.length t1)))) 0) (some ((.sl 0 0 0 0),[⟨50,4,[],true,false,0⟩])) (sl (Nat.beq 0 0&&Nat.ble ((0+(len (o0 (fun k=>(tP).row (gL tP t1 k)) (List.range (List.length t1)))))*32) room) (some ((.sl 0 0 (0+(len (o0 (fun k=>(tP).row (gL tP t1 k)) (List.range (List.length t1))))) 0),[⟨50,4,(app [] (o0 (fun k=>(tP).row (gL tP t1 k)) (List.range (List.length t1)))),true,false,0⟩])) none)) none) (sl (Nat.beq 0 0&&Nat.ble ((0+(len (o0 (fun k=>(tP).row (gL tP x k)) (List.range (List.length x)))))*32) room) (sl (lb7 (⟨(-24),(-24),(-24)⟩:V3) (⟨24,24,24⟩:V3)) (sl (Nat.beq (len (o0 (fun k=>(tP).row (gL tP t1 k)) (List.range (List.length t1)))) 0) (some ((.sl 0 0 (0+(len (o0 (fun k=>(tP).row (gL tP x k)) (List.range (List.length x))))) 0),[⟨50,4,(app [] (o0 (fun k=>(tP).row (gL tP x k)) (List.range (List.length x)))),true,false,0⟩])) (sl (Nat.beq (0+(len (o0 (fun k=>(tP).row (gL tP x k)) (List.range (List.length x))))) (len (app [] (o0 (fun k=>(tP).row (gL tP x k)) (List.range (List.length x)))))&&Nat.ble (((0+(len (o0 (fun k=>(tP).row (gL tP x k)) (List.range (List.length x)))))+(len (o0 (fun k=>(tP).row (gL tP t1 k)) (List.range (List.length t1)))))*32) room) (some ((.sl 0 0 ((0+(len (o0 (fun k=>(tP).row (gL tP x k)) (List.range (List.length x)))))+(len (o0 (fun k=>(tP).row (gL tP t1 k)) (List.range (List.length t1))))) 0),[⟨50,4,(app (app [] (o0 (fun k=>(tP).row (gL tP x k)) (List.range (List.length x)))) (o0 (fun k=>(tP).row (gL tP t1 k)) (List.range (List.length t1)))),true,false,0⟩])) none)) none) none))
noncomputable def Cb8 (x:List Pln):List Pln:=L4 (one (r1L tP)) (Cb7 x)
noncomputable def Cb9 (x:List Pln):Bool:=okO (one (r1L tP)) (Cb7 x)
noncomputable def yc1:Sum:=S3 (X5 tP) (fun x=>.guard (Cb9 x) (.ret ((one (r1L tP)).enc (Cb8 x),[])))
theorem Qc8:g9 prog G 91 yc1:=Aa9 (bd b91 Fd3) (one (r1L tP)) (o:=Cb7) fun x=>s6 (by kernel_rfl)
noncomputable def bd1:List (Nat×Sum):=[(16,wb6),(91,yc1),(90,yb5)]
theorem Qc9:i6 prog G bd1:=⟨Hb7,Qc8,Tb2,trivial⟩
noncomputable def Ra4 (x:List Pln):Option (b7×List b8):=let t1:=(Oa9 (rt tP x));let t2:=(Cb8 (rt tP x));let t3:=(Ja2 (rt tP t2));(sl (okE tP x) (sl (Pa0 (rt tP x)) (sl (t1 != 0) (some ((.v (.slice none 0 0)),[])) (sl (okE tP x) (sl (Cb9 (rt tP x)) (sl (okE tP t2) (sl (Ja3 (rt tP t2)) (some ((eL tX t3),[])) none) none) none) none)) none) none)
noncomputable def jb0 (x:List Pln):List Pt:=L4 (one (r1L tX)) (Ra4 x)
noncomputable def jb1 (x:List Pln):Bool:=okO (one (r1L tX)) (Ra4 x)
noncomputable def qc0:Sum:=S3 (X5 tP) (fun x=>.guard (jb1 x) (.ret ((one (r1L tX)).enc (jb0 x),[])))
theorem bd2:g9 prog G 19 qc0:=Aa9 (bd b19 Qc9) (one (r1L tX)) (o:=Ra4) fun x=>s6 (by kernel_rfl)
noncomputable def Tb5:List (Nat×Sum):=[(90,yb5),(37,Hb5)]
theorem sd2:i6 prog G Tb5:=⟨Tb2,Sb9,trivial⟩
structure Ra5 where
 c7:List Pln
 K3:List Pt
 is4:Int
structure ma7 where
 bs5:Bool
 is6:Int
noncomputable def bd3 (p:Ra5) (s:ma7):St:=⟨((eL tP p.c7)::(.unk::(.unk::((eL tX p.K3)::((i p.is4)::((b s.bs5)::((i s.is6)::(ra 29 [])))))))),[]⟩
noncomputable def Ca0 {α:Type} (k:ma7→α) (e:Nat→α) (z:α) (p:Ra5) (s:ma7):α:=let t1:=(Na5 (gL tP p.c7 p.is4.toNat) (gL tX p.K3 s.is6.toNat));(sl (decide (s.is6 < (↑(List.length p.K3):Int))) (sl s.bs5 (k ⟨true,(W (s.is6+1))⟩) (sl (inB p.is4 (List.length p.c7)) (sl (inB s.is6 (List.length p.K3)) (k ⟨(decide (t1 > 0)),(W (s.is6+1))⟩) z) z)) (e 1))
noncomputable def ya6 (p:Ra5) (s:ma7):Stp ma7:=Ca0 .next .exit .fail p s
noncomputable def Hb8:Lo Ra5 ma7:=⟨En Tb5,0,Oe9,[1,1,0,1,4,4,1,0,4,1,0,1,4,4],[0,3,4,5,6],.p,[⟨((.s (.c 4 (nL tP)))::((.s (.o .unk))::((.s (.o .unk))::((.s (.c 4 (nL tX)))::((.s (.o (.int .i64)))::((.s (.o .bool))::((.s (.o (.int .i64)))::(ru2 29 [])))))))),[],fun a H=>(⟨(rL tP (slT a 0)),(rL tX (slT a 3)),(toI (slT a 4))⟩,⟨(toB (slT a 5)),(toI (slT a 6))⟩)⟩],ya6,[(some 2,fun p s=>⟨((eL tP p.c7)::(.unk::(.unk::((eL tX p.K3)::((i p.is4)::((b s.bs5)::((i s.is6)::(ra 8 ((i s.is6)::((eL tX p.K3)::((i (↑(List.length p.K3):Int))::((b (decide (s.is6 < (↑(List.length p.K3):Int))))::(ra 17 []))))))))))))),[]⟩)],bd3⟩
theorem bd4:Hb8.Ok:=Lo.ok [] (by kernel_rfl) .nil rfl (.cons (fun a H=>by kernel_rfl) .nil) fun p s=>(.of @Ca0 (fun F _ _ _ _ _=>by unfold Ca0;(repeat' apply k9 (f:=F))<;>rfl) (by kernel_rfl))
structure Ra6 where
structure fa2 where
 c7:List Pln
 K3:List Pt
 is4:Int
noncomputable def bd5 (p:Ra6) (s:fa2):St:=⟨((eL tP s.c7)::(.unk::(.unk::((eL tX s.K3)::((i s.is4)::(ra 31 [])))))),[]⟩
noncomputable def Ca1 {α:Type} (k:fa2→α) (e:Nat→α) (z:α) (p:Ra6) (s:fa2):α:=let t1:=(lp (ya6 (⟨(rt tP s.c7),(rt tX s.K3),s.is4⟩:Ra5)) (⟨false,0⟩:ma7));(sl (decide (s.is4 < (↑(List.length s.c7):Int))) (sl ((cnE tP s.c7)&&((cnE tX s.K3)&&true)) (sl (Nat.beq t1.1 1) (sl (!t1.2.bs5) (e 1) (k ⟨(rt tP s.c7),(rt tX s.K3),(W (s.is4+1))⟩)) z) z) (e 2))
noncomputable def Ja5 (p:Ra6) (s:fa2):Stp fa2:=Ca1 .next .exit .fail p s
noncomputable def Hb9:Lo Ra6 fa2:=⟨En Tb5,0,Oe9,[1,1,0,1,4,4],[0,3,4],(.s .p (.s (.b (.s .p (.s (.s .p (.b (.u Hb8.ls))) .p))) .p)),[⟨((.s (.c 4 (nL tP)))::((.s (.o .unk))::((.s (.o .unk))::((.s (.c 4 (nL tX)))::((.s (.o (.int .i64)))::(ru2 31 [])))))),[],fun a H=>(⟨⟩,⟨(rL tP (slT a 0)),(rL tX (slT a 3)),(toI (slT a 4))⟩)⟩],Ja5,[(none,fun p s=>⟨[(b false)],[]⟩),(some 0,fun p s=>⟨((eL tP s.c7)::(.unk::(.unk::((eL tX s.K3)::((i s.is4)::(ra 4 ((i s.is4)::((eL tP s.c7)::((i (↑(List.length s.c7):Int))::((b (decide (s.is4 < (↑(List.length s.c7):Int))))::(ra 23 []))))))))))),[]⟩)],bd5⟩
theorem bd6:Hb9.Ok:=Lo.ok [Hb8.pr] (by kernel_rfl) (.cons bd4 .nil) rfl (.cons (fun a H=>by kernel_rfl) .nil) fun p s=>(.of @Ca1 (fun F _ _ _ _ _=>by unfold Ca1;(repeat' apply k9 (f:=F))<;>rfl) (by kernel_rfl))
noncomputable def ob7 (x:List Pln):Option (b7×List b8):=let t1:=(Ja2 (rt tP x));let t2:=(lp (Ja5 (⟨⟩:Ra6)) (⟨(rt tP x),(rt tX t1),0⟩:fa2));(sl (okE tP x) (sl (Ja3 (rt tP x)) (sl ((cnE tP x)&&((cnE tX t1)&&true)) (sl (Nat.beq t2.1 1) (some ((b false),[])) (sl (Nat.beq t2.1 2) (some ((b true),[])) none)) none) none) none)
noncomputable def Ib0 (x:List Pln):Bool:=L4 (one r1B) (ob7 x)
noncomputable def Ib1 (x:List Pln):Bool:=okO (one r1B) (ob7 x)
noncomputable def Rc0:Sum:=S3 (X5 tP) (fun x=>.guard (Ib1 x) (.ret ((one r1B).enc (Ib0 x),[])))
theorem Fd4:g9 prog G 93 Rc0:=Aa9 (bd b93 sd2) (one r1B) (o:=ob7) fun x=>ua4 (.s .p (.s .p (.s (.s .p (.b (.u Hb9.ls))) .p))) [Hb9.pr] (by kernel_rfl) (.cons bd6 .nil) (by kernel_rfl)
noncomputable def Fd5:List (Nat×Sum):=[(16,wb6),(91,yc1),(93,Rc0)]
theorem sd3:i6 prog G Fd5:=⟨Hb7,Qc8,Fd4,trivial⟩
noncomputable def ob8 (x:List Pln):Option (b7×List b8):=let t1:=(Oa9 (rt tP x));let t2:=(Cb8 (rt tP x));let t3:=(Ib0 (rt tP t2));(sl (okE tP x) (sl (Pa0 (rt tP x)) (sl (t1==0) (sl (okE tP x) (sl (Cb9 (rt tP x)) (sl (okE tP t2) (sl (Ib1 (rt tP t2)) (some ((b t3),[])) none) none) none) none) (some ((b false),[]))) none) none)
noncomputable def Wa8 (x:List Pln):Bool:=L4 (one r1B) (ob8 x)
noncomputable def Na7 (x:List Pln):Bool:=okO (one r1B) (ob8 x)
noncomputable def ic3:Sum:=S3 (X5 tP) (fun x=>.guard (Na7 x) (.ret ((one r1B).enc (Wa8 x),[])))
theorem Cc7:g9 prog G 21 ic3:=Aa9 (bd b21 sd3) (one r1B) (o:=ob8) fun x=>s6 (by kernel_rfl)
noncomputable def Rd4:List (Nat×Sum):=[]
theorem Fd6:i6 prog G Rd4:=trivial
noncomputable def Db0 (x:Int) (y:Int):Option (b7×List b8):=(sl (decide (y < 1)) (some ((i 0),[])) (sl (y==0) none (sl (y==0) none (some ((i (Int.tmod (W ((Int.tmod x y)+y)) y)),[])))))
noncomputable def ya7 (x:Int) (y:Int):Int:=L4 (one r1I) (Db0 x y)
noncomputable def ra8 (x:Int) (y:Int):Bool:=okO (one r1I) (Db0 x y)
noncomputable def Db1:Sum:=pa2 cI cI (fun x y=>.guard (ra8 x y) (.ret ((one r1I).enc (ya7 x y),[])))
theorem Ib2:g9 prog G 47 Db1:=ib8 (bd b47 Fd6) (one r1I) (o:=Db0) fun x y=>s6 (by kernel_rfl)
structure we7 where
 df2:List Pt
structure we8 where
 is8:Int
 ha5:Int
 ha6:Int
 ha7:Int
 bc2:Int
 bc3:Int
 bc4:Int
end Go.Ev.Ce
end
section
namespace Go.Ev.Ce
open Go Go.Ev Go.Ev.L Go.Proofs
set_option maxRecDepth 100000
noncomputable def sd4:List (Nat×Sum):=[]
theorem bd7:i6 prog G sd4:=trivial
noncomputable def Pa1 (x:V3) (y:V3):Int:=(W ((W ((W (x.x*y.x))+(W (x.y*y.y))))+(W (x.z*y.z))))
noncomputable def Tb6:Sum:=pa2 (S4 tV) (S4 tV) (fun x y=>.ret ((one r1I).enc (Pa1 x y),[]))
theorem qc1:g9 prog G 129 Tb6:=Ga0 (bd if6 bd7) fun x y=>s6 (by kernel_rfl)
noncomputable def sd5:List (Nat×Sum):=[]
theorem bd8:i6 prog G sd5:=trivial
noncomputable def ua5 (x:V3) (y:V3):V3:=(⟨(W (x.x+y.x)),(W (x.y+y.y)),(W (x.z+y.z))⟩:V3)
noncomputable def Cc8:Sum:=pa2 (S4 tV) (S4 tV) (fun x y=>.ret ((one r1V).enc (ua5 x y),[]))
theorem sd6:g9 prog G 54 Cc8:=Ga0 (bd b54 bd8) fun x y=>s6 (by kernel_rfl)
noncomputable def bd9:List (Nat×Sum):=[]
theorem Rc1:i6 prog G bd9:=trivial
noncomputable def T5 (x:V3) (y:Int):V3:=(⟨(W (x.x*y)),(W (x.y*y)),(W (x.z*y))⟩:V3)
noncomputable def Ib3:Sum:=pa2 (S4 tV) cI (fun x y=>.ret ((one r1V).enc (T5 x y),[]))
theorem ec2:g9 prog G 94 Ib3:=Ga0 (bd b94 Rc1) fun x y=>s6 (by kernel_rfl)
noncomputable def Rc2:List (Nat×Sum):=[]
theorem Fc7:i6 prog G Rc2:=trivial
noncomputable def R8 (x:V3) (y:V3):V3:=(⟨(W ((W (x.y*y.z)) - (W (x.z*y.y)))),(W ((W (x.z*y.x)) - (W (x.x*y.z)))),(W ((W (x.x*y.y)) - (W (x.y*y.x))))⟩:V3)
noncomputable def ec3:Sum:=pa2 (S4 tV) (S4 tV) (fun x y=>.ret ((one r1V).enc (R8 x y),[]))
theorem Rc3:g9 prog G 142 ec3:=Ga0 (bd if8 Fc7) fun x y=>s6 (by kernel_rfl)
noncomputable def sd7:List (Nat×Sum):=[(129,Tb6)]
theorem cd0:i6 prog G sd7:=⟨qc1,trivial⟩
noncomputable def ua6 (x:Pln) (y:Pt):Int:=let t1:=(Pa1 x.n (⟨y.px,y.py,y.pz⟩:V3));(W ((W (x.b*y.pw)) - t1))
noncomputable def wb7:Sum:=pa2 (S4 tP) (S4 tX) (fun x y=>.ret ((one r1I).enc (ua6 x y),[]))
theorem Ib4:g9 prog G 102 wb7:=Ga0 (bd gf9 cd0) fun x y=>s6 (by kernel_rfl)
noncomputable def Tb7:List (Nat×Sum):=[]
theorem sd8:i6 prog G Tb7:=trivial
structure Ga2 where
 Ha8:List Int
 is7:Int
 is8:Int
structure ma8 where
 is3:Int
 is5:Int
noncomputable def cd1 (p:Ga2) (s:ma8):St:=⟨(ra 3 ((i s.is3)::(.unk::((i s.is5)::((eL tI p.Ha8)::((i p.is7)::((i p.is8)::(ra 14 [])))))))),[]⟩
noncomputable def Ca2 {α:Type} (k:ma8→α) (e:Nat→α) (z:α) (p:Ga2) (s:ma8):α:=(sl (s.is5 != 0) (sl (s.is5==0) z (k ⟨s.is5,(Int.tmod s.is3 s.is5)⟩)) (e 1))
noncomputable def Ja6 (p:Ga2) (s:ma8):Stp ma8:=Ca2 .next .exit .fail p s
noncomputable def Ib5:Lo Ga2 ma8:=⟨En Tb7,0,ne8,[1,1,0,1,4,4,1,1,0,4,1,4,4],[3,5,6,7,8],.p,[⟨(ru2 3 ((.s (.o (.int .i64)))::((.s (.o .unk))::((.s (.o (.int .i64)))::((.s (.c 1 (nL tI)))::((.s (.o (.int .i64)))::((.s (.o (.int .i64)))::(ru2 14 [])))))))),[],fun a H=>(⟨(rL tI (slT a 6)),(toI (slT a 7)),(toI (slT a 8))⟩,⟨(toI (slT a 3)),(toI (slT a 5))⟩)⟩],Ja6,[(some 2,fun p s=>⟨(ra 3 ((i s.is3)::(.unk::((i s.is5)::((eL tI p.Ha8)::((i p.is7)::((i p.is8)::(ra 3 ((i s.is5)::((b (s.is5 != 0))::(ra 9 []))))))))))),[]⟩)],cd1⟩
theorem cd2:Ib5.Ok:=Lo.ok [] (by kernel_rfl) .nil rfl (.cons (fun a H=>by kernel_rfl) .nil) fun p s=>(.of @Ca2 (fun F _ _ _ _ _=>by unfold Ca2;(repeat' apply k9 (f:=F))<;>rfl) (by kernel_rfl))
structure Ra7 where
 is7:Int
structure ma9 where
 is3:Int
 Ha8:List Int
 is8:Int
noncomputable def cd3 (p:Ra7) (s:ma9):St:=⟨(ra 3 ((i s.is3)::(.unk::(.unk::((eL tI s.Ha8)::((i p.is7)::((i s.is8)::(ra 14 [])))))))),[]⟩
noncomputable def Ca3 {α:Type} (k:ma9→α) (e:Nat→α) (z:α) (p:Ra7) (s:ma9):α:=let t1:=(lp (Ja6 (⟨(rt tI s.Ha8),p.is7,s.is8⟩:Ga2)) (⟨s.is3,(gL tI s.Ha8 s.is8.toNat)⟩:ma8));(sl (decide (s.is8 < p.is7)) (sl (inB s.is8 (List.length s.Ha8)) (sl ((cnE tI s.Ha8)&&true) (sl (Nat.beq t1.1 1) (k ⟨t1.2.is3,(rt tI s.Ha8),(W (s.is8+1))⟩) z) z) z) (e 1))
noncomputable def ya8 (p:Ra7) (s:ma9):Stp ma9:=Ca3 .next .exit .fail p s
noncomputable def Ib6:Lo Ra7 ma9:=⟨En Tb7,0,ne8,[1,1,0,1,4,4],[3,6,7,8],(.s .p (.s .p (.s (.b (.s .p (.b (.u Ib5.ls)))) .p))),[⟨(ru2 3 ((.s (.o (.int .i64)))::((.s (.o .unk))::((.s (.o .unk))::((.s (.c 1 (nL tI)))::((.s (.o (.int .i64)))::((.s (.o (.int .i64)))::(ru2 14 [])))))))),[],fun a H=>(⟨(toI (slT a 7))⟩,⟨(toI (slT a 3)),(rL tI (slT a 6)),(toI (slT a 8))⟩)⟩],ya8,[(some 0,fun p s=>⟨(ra 3 ((i s.is3)::(.unk::(.unk::((eL tI s.Ha8)::((i p.is7)::((i s.is8)::((b (decide (s.is8 < p.is7)))::(ra 13 []))))))))),[]⟩)],cd3⟩
theorem cd4:Ib6.Ok:=Lo.ok [Ib5.pr] (by kernel_rfl) (.cons cd2 .nil) rfl (.cons (fun a H=>by kernel_rfl) .nil) fun p s=>(.of @Ca3 (fun F _ _ _ _ _=>by unfold Ca3;(repeat' apply k9 (f:=F))<;>rfl) (by kernel_rfl))
noncomputable def ob9 (x:List Int):Option (b7×List b8):=let t1:=(lp (ya8 (⟨(↑(List.length x):Int)⟩:Ra7)) (⟨0,(rt tI x),0⟩:ma9));(sl ((cnE tI x)&&true) (sl (Nat.beq t1.1 1) (some ((i (if (W (0 - t1.2.is3)) > t1.2.is3 then (W (0 - t1.2.is3)) else t1.2.is3)),[])) none) none)
noncomputable def Ib7 (x:List Int):Int:=L4 (one r1I) (ob9 x)
noncomputable def Ib8 (x:List Int):Bool:=okO (one r1I) (ob9 x)
noncomputable def Rc4:Sum:=S3 (X5 tI) (fun x=>.guard (Ib8 x) (.ret ((one r1I).enc (Ib7 x),[])))
theorem Fd7:g9 prog G 218 Rc4:=Aa9 (bd lf8 sd8) (one r1I) (o:=ob9) fun x=>ua4 (.s .p (.s .p (.s (.s .p (.b (.u Ib6.ls))) .p))) [Ib6.pr] (by kernel_rfl) (.cons cd4 .nil) (by kernel_rfl)
noncomputable def sd9:List (Nat×Sum):=[(142,ec3),(129,Tb6),(94,Ib3),(54,Cc8),(218,Rc4)]
theorem cd5:i6 prog G sd9:=⟨Rc3,qc1,ec2,sd6,Fd7,trivial⟩
noncomputable def bb0 (x:Tp):Option (b7×List b8):=let t1:=(R8 x.q.n x.r.n);let t3:=(T5 t1 x.p.b);let t4:=(ua5 (⟨0,0,0⟩:V3) t3);let t5:=(R8 x.r.n x.p.n);let t7:=(T5 t5 x.q.b);let t8:=(ua5 t4 t7);let t9:=(R8 x.p.n x.q.n);let t10:=(Pa1 x.r.n t9);let t11:=(T5 t9 x.r.b);let t12:=(ua5 t8 t11);let t13:=(Ib7 [t12.x,t12.y,t12.z,t10]);(sl (t10==0) (some ((.tup [(.agg [(i 0),(i 0),(i 0),(i 0)]),(b false)]),[])) (sl (Ib8 [t12.x,t12.y,t12.z,t10]) (sl (decide (t10 < 0)) (sl ((W (0 - t13))==0) none (sl ((W (0 - t13))==0) none (sl ((W (0 - t13))==0) none (sl ((W (0 - t13))==0) none (some ((.tup [(.agg [(i (W (Int.tdiv t12.x (W (0 - t13))))),(i (W (Int.tdiv t12.y (W (0 - t13))))),(i (W (Int.tdiv t12.z (W (0 - t13))))),(i (W (Int.tdiv t10 (W (0 - t13)))))]),(b true)]),[])))))) (sl (t13==0) none (sl (t13==0) none (sl (t13==0) none (sl (t13==0) none (some ((.tup [(.agg [(i (W (Int.tdiv t12.x t13))),(i (W (Int.tdiv t12.y t13))),(i (W (Int.tdiv t12.z t13))),(i (W (Int.tdiv t10 t13)))]),(b true)]),[]))))))) none))
noncomputable def bb1 (x:Tp):Pt×Bool:=L4 (two r1X r1B) (bb0 x)
noncomputable def bb2 (x:Tp):Bool:=okO (two r1X r1B) (bb0 x)
noncomputable def Cc9:Sum:=S3 (S4 tY) (fun x=>.guard (bb2 x) (.ret ((two r1X r1B).enc (bb1 x),[])))
theorem td0:g9 prog G 171 Cc9:=Aa9 (bd jf7 cd5) (two r1X r1B) (o:=bb0) fun x=>s6 (by kernel_rfl)
structure Ma1 where
 oa6:Int
 oa7:Int
 oa8:Int
 sb6:Int
 f9:Int
 b9:Int
 g7:Int
 d9:Int
noncomputable def yc2:List (Nat×Sum):=[(102,wb7)]
theorem qc2:i6 prog G yc2:=⟨Ib4,trivial⟩
structure wa7 where
 bs0:Bool
noncomputable def wa8 {α:Type} (kk:wa7→α) (x:Ma1):α:=let t1:=(ua6 (⟨(⟨x.oa6,x.oa7,x.oa8⟩:V3),x.sb6⟩:Pln) (⟨x.f9,x.b9,x.g7,x.d9⟩:Pt));(kk ⟨(decide (t1 < 0))⟩)
noncomputable def eb5 (x:Ma1):wa7:=wa8 (fun r=>r) x
noncomputable def Wa9 (x:Ma1) (r:wa7):DT (b7×List b8):=.ret ((b r.bs0),[⟨0,4,[[(i x.f9),(i x.b9),(i x.g7),(i x.d9)]],true,false,0⟩])
theorem Fc8 {α β:Type} (F:α→β) (kk:wa7→α) (x:Ma1):F (wa8 kk x)=wa8 (fun r=>F (kk r)) x:=by unfold wa8;(repeat' apply k9 (f:=F))<;>rfl
noncomputable def Mb4:Sum:=Qa9 ⟨[(.agg [(.o (.int .i64)),(.o (.int .i64)),(.o (.int .i64)),(.o (.int .i64))]),(.s (.o (.ptr 0 0 0 0)))],[⟨0,4,true,(some [[(.o (.int .i64)),(.o (.int .i64)),(.o (.int .i64)),(.o (.int .i64))]])⟩],fun a H=>(⟨(toI (slT (cellsOf (slT a 0)) 0)),(toI (slT (cellsOf (slT a 0)) 1)),(toI (slT (cellsOf (slT a 0)) 2)),(toI (slT (cellsOf (slT a 0)) 3)),(toI (slT (rwT (elT H 0) 0) 0)),(toI (slT (rwT (elT H 0) 0) 1)),(toI (slT (rwT (elT H 0) 0) 2)),(toI (slT (rwT (elT H 0) 0) 3))⟩,())⟩ (fun x=>Wa9 x (eb5 x))
theorem yc3:g9 prog G 181 Mb4:=K4 (enc:=fun x=>⟨[(.agg [(i x.oa6),(i x.oa7),(i x.oa8),(i x.sb6)]),(.ptr 0 0 0 0)],[⟨0,4,[[(i x.f9),(i x.b9),(i x.g7),(i x.d9)]],true,false,0⟩]⟩) (fun a H=>by kernel_rfl) (bd kf7 qc2) fun x=>s6 (Eq.trans (b:=wa8 (fun r=>(Wa9 x r).run) x) (by kernel_rfl) (Fc8 (fun r=>(Wa9 x r).run) (fun r=>r) x).symm)
structure V2 where
 c7:List Pln
 f9:Int
 b9:Int
 g7:Int
 d9:Int
noncomputable def Ca4:List (Nat×Sum):=[(181,Mb4)]
theorem jb2:i6 prog G Ca4:=⟨yc3,trivial⟩
structure I6 where
 c7:List Pln
 is7:Int
 f9:Int
 b9:Int
 g7:Int
 d9:Int
structure o4 where
 is8:Int
noncomputable def eb6 (p:I6) (s:o4):St:=⟨((eL tP p.c7)::((.fn 181 [(.ptr 0 0 0 0)])::(ra 5 ((i p.is7)::((i s.is8)::(ra 10 [])))))),[⟨0,4,[[(i p.f9),(i p.b9),(i p.g7),(i p.d9)]],true,false,0⟩]⟩
noncomputable def D3 {α:Type} (k:o4→α) (e:Nat→α) (z:α) (p:I6) (s:o4):α:=let t1:=(eb5 ⟨(gL tP p.c7 s.is8.toNat).n.x,(gL tP p.c7 s.is8.toNat).n.y,(gL tP p.c7 s.is8.toNat).n.z,(gL tP p.c7 s.is8.toNat).b,p.f9,p.b9,p.g7,p.d9⟩);(sl (decide (s.is8 < p.is7)) (sl (inB s.is8 (List.length p.c7)) (sl t1.bs0 (e 1) (k ⟨(W (s.is8+1))⟩)) z) (e 2))
noncomputable def G1 (p:I6) (s:o4):Stp o4:=D3 .next .exit .fail p s
noncomputable def fa3:Lo I6 o4:=⟨En Ca4,1,Ed4,[1,0,1,4,4],[0,1,7,8],.p,[⟨((.s (.c 4 (nL tP)))::((.fn 181 [(.o (.ptr 0 0 0 0))])::(ru2 5 ((.s (.o (.int .i64)))::((.s (.o (.int .i64)))::(ru2 10 [])))))),[⟨0,4,true,(some [[(.o (.int .i64)),(.o (.int .i64)),(.o (.int .i64)),(.o (.int .i64))]])⟩],fun a H=>(⟨(rL tP (slT a 0)),(toI (slT a 7)),(toI (slT (rwT (elT H 0) 0) 0)),(toI (slT (rwT (elT H 0) 0) 1)),(toI (slT (rwT (elT H 0) 0) 2)),(toI (slT (rwT (elT H 0) 0) 3))⟩,⟨(toI (slT a 8))⟩)⟩],G1,[(none,fun p s=>⟨[(i s.is8)],[⟨0,4,[[(i p.f9),(i p.b9),(i p.g7),(i p.d9)]],true,false,0⟩]⟩),(some 0,fun p s=>⟨((eL tP p.c7)::((.fn 181 [(.ptr 0 0 0 0)])::(ra 5 ((i p.is7)::((i s.is8)::((b (decide (s.is8 < p.is7)))::(ra 9 []))))))),[⟨0,4,[[(i p.f9),(i p.b9),(i p.g7),(i p.d9)]],true,false,0⟩]⟩)],eb6⟩
theorem eb7:fa3.Ok:=Lo.ok [] (by kernel_rfl) .nil rfl (.cons (fun a H=>by kernel_rfl) .nil) fun p s=>(.of @D3 (fun F _ _ _ _ _=>by unfold D3;(repeat' apply k9 (f:=F))<;>rfl) (by kernel_rfl))
structure V4 where
 alt:Nat
 is0:Int
noncomputable def E0 {α:Type} (kk:V4→α) (x:V2):α:=let t1:=(lp (G1 (⟨(rt tP x.c7),(↑(List.length x.c7):Int),x.f9,x.b9,x.g7,x.d9⟩:I6)) (⟨0⟩:o4));(sl ((cnE tP x.c7)&&true) (sl (Nat.beq t1.1 1) (kk ⟨1,t1.2.is8⟩) (sl (Nat.beq t1.1 2) (kk ⟨1,(-1)⟩) (kk ⟨0,0⟩))) (kk ⟨0,0⟩))
noncomputable def V5 (x:V2):V4:=E0 (fun r=>r) x
noncomputable def ia2 (x:V2) (r:V4):DT (b7×List b8):=(.ite (Nat.beq r.alt 1) (.ret ((i r.is0),[⟨0,4,[[(i x.f9),(i x.b9),(i x.g7),(i x.d9)]],true,false,0⟩])) .fail)
theorem sb8 {α β:Type} (F:α→β) (kk:V4→α) (x:V2):F (E0 kk x)=E0 (fun r=>F (kk r)) x:=by unfold E0;(repeat' apply k9 (f:=F))<;>rfl
noncomputable def Ha0:Sum:=Qa9 ⟨[(.s (.c 4 (nL tP))),(.fn 181 [(.o (.ptr 0 0 0 0))])],[⟨0,4,true,(some [[(.o (.int .i64)),(.o (.int .i64)),(.o (.int .i64)),(.o (.int .i64))]])⟩],fun a H=>(⟨(rL tP (slT a 0)),(toI (slT (rwT (elT H 0) 0) 0)),(toI (slT (rwT (elT H 0) 0) 1)),(toI (slT (rwT (elT H 0) 0) 2)),(toI (slT (rwT (elT H 0) 0) 3))⟩,())⟩ (fun x=>ia2 x (V5 x))
theorem pb0:g9 prog G 163 Ha0:=K4 (enc:=fun x=>⟨[(eL tP x.c7),(.fn 181 [(.ptr 0 0 0 0)])],[⟨0,4,[[(i x.f9),(i x.b9),(i x.g7),(i x.d9)]],true,false,0⟩]⟩) (fun a H=>by kernel_rfl) (bd Be0 jb2) fun x=>ua4 (.s .p (.s (.s .p (.b (.u fa3.ls))) .p)) [fa3.pr] (by kernel_rfl) (.cons eb7 .nil) (Eq.trans (b:=E0 (fun r=>(ia2 x r).run) x) (by kernel_rfl) (sb8 (fun r=>(ia2 x r).run) (fun r=>r) x).symm)
structure O1 where
 c7:List Pln
 f9:Int
 b9:Int
 g7:Int
 d9:Int
noncomputable def bb3:List (Nat×Sum):=[(163,Ha0)]
theorem Xa0:i6 prog G bb3:=⟨pb0,trivial⟩
structure O2 where
 alt:Nat
 bs0:Bool
noncomputable def A7 {α:Type} (kk:O2→α) (x:O1):α:=let t1:=(V5 ⟨(rt tP x.c7),x.f9,x.b9,x.g7,x.d9⟩);(sl ((cnE tP x.c7)&&true) (sl (Nat.beq t1.alt 1) (kk ⟨1,(decide (t1.is0≥0))⟩) (kk ⟨0,false⟩)) (kk ⟨0,false⟩))
noncomputable def da0 (x:O1):O2:=A7 (fun r=>r) x
noncomputable def aa7 (x:O1) (r:O2):DT (b7×List b8):=(.ite (Nat.beq r.alt 1) (.ret ((b r.bs0),[⟨0,4,[[(i x.f9),(i x.b9),(i x.g7),(i x.d9)]],true,false,0⟩])) .fail)
theorem eb8 {α β:Type} (F:α→β) (kk:O2→α) (x:O1):F (A7 kk x)=A7 (fun r=>F (kk r)) x:=by unfold A7;(repeat' apply k9 (f:=F))<;>rfl
noncomputable def wa9:Sum:=Qa9 ⟨[(.s (.c 4 (nL tP))),(.fn 181 [(.o (.ptr 0 0 0 0))])],[⟨0,4,true,(some [[(.o (.int .i64)),(.o (.int .i64)),(.o (.int .i64)),(.o (.int .i64))]])⟩],fun a H=>(⟨(rL tP (slT a 0)),(toI (slT (rwT (elT H 0) 0) 0)),(toI (slT (rwT (elT H 0) 0) 1)),(toI (slT (rwT (elT H 0) 0) 2)),(toI (slT (rwT (elT H 0) 0) 3))⟩,())⟩ (fun x=>aa7 x (da0 x))
theorem bb4:g9 prog G 83 wa9:=K4 (enc:=fun x=>⟨[(eL tP x.c7),(.fn 181 [(.ptr 0 0 0 0)])],[⟨0,4,[[(i x.f9),(i x.b9),(i x.g7),(i x.d9)]],true,false,0⟩]⟩) (fun a H=>by kernel_rfl) (bd b83 Xa0) fun x=>s6 (Eq.trans (b:=A7 (fun r=>(aa7 x r).run) x) (by kernel_rfl) (eb8 (fun r=>(aa7 x r).run) (fun r=>r) x).symm)
noncomputable def Rc5:List (Nat×Sum):=[(83,wa9)]
theorem Fc9:i6 prog G Rc5:=⟨bb4,trivial⟩
noncomputable def Ja7 (x:List Pln) (y:Pt):Option (b7×List b8):=let t1:=(da0 ⟨(rt tP x),y.px,y.py,y.pz,y.pw⟩);(sl ((cnE tP x)&&true) (sl (Nat.beq t1.alt 1) (some ((b (!t1.bs0)),[])) none) none)
noncomputable def Z3 (x:List Pln) (y:Pt):Bool:=L4 (one r1B) (Ja7 x y)
noncomputable def Z4 (x:List Pln) (y:Pt):Bool:=okO (one r1B) (Ja7 x y)
noncomputable def Ya9:Sum:=pa2 (X5 tP) (S4 tX) (fun x y=>.guard (Z4 x y) (.ret ((one r1B).enc (Z3 x y),[])))
theorem pb1:g9 prog G 108 Ya9:=ib8 (bd hf6 Fc9) (one r1B) (o:=Ja7) fun x y=>s6 (by kernel_rfl)
noncomputable def Ja8:List (Nat×Sum):=[]
theorem sb9:i6 prog G Ja8:=trivial
@[reducible] noncomputable def Pa2:Sum:=i8 (En Ja8) Je3
theorem yb7:g9 prog G 217 Pa2:=bd lf7 sb9
noncomputable def Ra8:List (Nat×Sum):=[(217,Pa2)]
theorem Db2:i6 prog G Ra8:=⟨yb7,trivial⟩
@[reducible] noncomputable def Va7:Sum:=i8 (En Ra8) Ie4
theorem Ib9:g9 prog G 170 Va7:=bd jf6 Db2
noncomputable def fa4:List (Nat×Sum):=[(171,Cc9),(108,Ya9),(170,Va7)]
theorem Db3:i6 prog G fa4:=⟨td0,pb1,Ib9,trivial⟩
structure i9 where
 is3:Int
 R7:List Pln
 Va5:Int
 Y7:Int
 uc8:Nat
 lb1:Nat→List b7
 ka2:Int
 ua1:Int
 Td6:Nat
 ib0:Nat→List b7
 xd7:Int
 d8:List Pln
 l5:Int
 l6:Int
 l7:Int
 K6:Int
 ha5:Int
 ha6:Int
 ha7:Int
 lb2:Int
 ua2:List Pln
structure j6 where
 ph:Nat
 ya1:Int
 Za8:Nat
 eh6:List (List b7)
 eh7:List (List b7)
noncomputable def tb0 (p:i9) (s:j6):St:=⟨(.unk::((.ptr 0 0 0 0)::(.unk::((i p.is3)::((.ptr 1 0 0 0)::(.unk::((.ptr 2 0 0 0)::(.unk::(.unk::((eL tP p.R7)::((i p.Va5)::((i p.Y7)::(ra 7 ((.tree 4 p.uc8 p.lb1)::((i p.ka2)::((i p.ua1)::(ra 9 ((.tree 4 p.Td6 p.ib0)::((i p.xd7)::((i s.ya1)::(ra 13 ((i 0)::(.unk::((.ptr 3 0 0 0)::((.v (.slice none 0 0))::((.ptr 4 0 0 0)::((.ptr 5 0 0 0)::(ra 31 [])))))))))))))))))))))))))))),[⟨0,1,[[(eL tP p.d8)]],true,false,0⟩,⟨0,4,[[(i p.l5),(i p.l6),(i p.l7),(i p.K6)]],true,false,0⟩,⟨0,4,[[(i p.ha5),(i p.ha6),(i p.ha7),(i p.lb2)]],true,false,0⟩,⟨0,1,[[(eL tP p.ua2)]],true,false,0⟩,⟨0,0,[[(.v (.slice none 0 0))]],true,false,0⟩,⟨0,0,[[(.ptr 6 0 0 0)]],true,false,0⟩,⟨174,0,[],true,false,0⟩]⟩
noncomputable def tb1 (p:i9) (s:j6):St:=⟨(.unk::((.ptr 0 0 0 0)::(.unk::((i p.is3)::((.ptr 1 0 0 0)::(.unk::((.ptr 2 0 0 0)::(.unk::(.unk::((eL tP p.R7)::((i p.Va5)::((i p.Y7)::(ra 7 ((.tree 4 p.uc8 p.lb1)::((i p.ka2)::((i p.ua1)::(ra 9 ((.tree 4 p.Td6 p.ib0)::((i p.xd7)::((i s.ya1)::(ra 13 ((i 0)::(.unk::((.ptr 3 0 0 0)::((.v (.slice none 0 0))::((.ptr 4 0 0 0)::((.ptr 5 0 0 0)::(ra 31 [])))))))))))))))))))))))))))),[⟨0,1,[[(eL tP p.d8)]],true,false,0⟩,⟨0,4,[[(i p.l5),(i p.l6),(i p.l7),(i p.K6)]],true,false,0⟩,⟨0,4,[[(i p.ha5),(i p.ha6),(i p.ha7),(i p.lb2)]],true,false,0⟩,⟨0,1,[[(eL tP p.ua2)]],true,false,0⟩,⟨0,0,[[(.sl 6 0 s.Za8 0)]],true,false,0⟩,⟨0,0,[[(.ptr 7 0 0 0)]],true,false,0⟩,⟨54,4,s.eh6,true,false,0⟩,⟨174,0,s.eh7,true,false,0⟩]⟩
noncomputable def yb8 (p:i9) (s:j6):St:=(sel (Nat.beq s.ph 1) (tb1 p s) (tb0 p s))
noncomputable def z7 {α:Type} (k:j6→α) (e:Nat→α) (z:α) (p:i9) (s:j6):α:=let t1:=(bb1 (⟨(⟨(⟨p.l5,p.l6,p.l7⟩:V3),p.K6⟩:Pln),(⟨(⟨p.ha5,p.ha6,p.ha7⟩:V3),p.lb2⟩:Pln),(⟨(⟨(toI (hdA (p.ib0 s.ya1.toNat))),(toI (hdA (tlA (p.ib0 s.ya1.toNat)))),(toI (hdA (tlA (tlA (p.ib0 s.ya1.toNat)))))⟩:V3),(toI (hdA (tlA (tlA (tlA (p.ib0 s.ya1.toNat))))))⟩:Pln)⟩:Tp));let t2:=(Z3 (rt tP p.ua2) t1.1);(sl (decide (s.ya1 < p.xd7)) (sl (inB s.ya1 p.Td6) (sl ((Nat.ble 4 (len (p.ib0 s.ya1.toNat)))&&(K7 [(CK.int .i64),(CK.int .i64),(CK.int .i64),(CK.int .i64)] (p.ib0 s.ya1.toNat))) (sl (bb2 (⟨(⟨(⟨p.l5,p.l6,p.l7⟩:V3),p.K6⟩:Pln),(⟨(⟨p.ha5,p.ha6,p.ha7⟩:V3),p.lb2⟩:Pln),(⟨(⟨(toI (hdA (p.ib0 s.ya1.toNat))),(toI (hdA (tlA (p.ib0 s.ya1.toNat)))),(toI (hdA (tlA (tlA (p.ib0 s.ya1.toNat)))))⟩:V3),(toI (hdA (tlA (tlA (tlA (p.ib0 s.ya1.toNat))))))⟩:Pln)⟩:Tp)) (sl t1.2 (sl (!(lc6 4 [(0,(.int .i64)),(1,(.int .i64)),(2,(.int .i64)),(3,(.int .i64))] [(i t1.1.px),(i t1.1.py),(i t1.1.pz),(i t1.1.pw)] [])) (sl (okE tP p.ua2) (sl (Z4 (rt tP p.ua2) t1.1) (sl t2 (k ⟨1,(W (s.ya1+1)),1,[[(i t1.1.px),(i t1.1.py),(i t1.1.pz),(i t1.1.pw)]],(xb6 [(0,(.int .i64)),(1,(.int .i64)),(2,(.int .i64)),(3,(.int .i64))] [(i t1.1.px),(i t1.1.py),(i t1.1.pz),(i t1.1.pw)] [(i t1.1.px),(i t1.1.py),(i t1.1.pz),(i t1.1.pw),(b true)] [])⟩) (k ⟨0,(W (s.ya1+1)),0,[],[]⟩)) z) z) (k ⟨0,(W (s.ya1+1)),0,[],[]⟩)) (k ⟨0,(W (s.ya1+1)),0,[],[]⟩)) z) z) z) (e 1))
noncomputable def z8 {α:Type} (k:j6→α) (e:Nat→α) (z:α) (p:i9) (s:j6):α:=let t1:=(bb1 (⟨(⟨(⟨p.l5,p.l6,p.l7⟩:V3),p.K6⟩:Pln),(⟨(⟨p.ha5,p.ha6,p.ha7⟩:V3),p.lb2⟩:Pln),(⟨(⟨(toI (hdA (p.ib0 s.ya1.toNat))),(toI (hdA (tlA (p.ib0 s.ya1.toNat)))),(toI (hdA (tlA (tlA (p.ib0 s.ya1.toNat)))))⟩:V3),(toI (hdA (tlA (tlA (tlA (p.ib0 s.ya1.toNat))))))⟩:Pln)⟩:Tp));let t2:=(Z3 (rt tP p.ua2) t1.1);(sl (decide (s.ya1 < p.xd7)) (sl (inB s.ya1 p.Td6) (sl ((Nat.ble 4 (len (p.ib0 s.ya1.toNat)))&&(K7 [(CK.int .i64),(CK.int .i64),(CK.int .i64),(CK.int .i64)] (p.ib0 s.ya1.toNat))) (sl (bb2 (⟨(⟨(⟨p.l5,p.l6,p.l7⟩:V3),p.K6⟩:Pln),(⟨(⟨p.ha5,p.ha6,p.ha7⟩:V3),p.lb2⟩:Pln),(⟨(⟨(toI (hdA (p.ib0 s.ya1.toNat))),(toI (hdA (tlA (p.ib0 s.ya1.toNat)))),(toI (hdA (tlA (tlA (p.ib0 s.ya1.toNat)))))⟩:V3),(toI (hdA (tlA (tlA (tlA (p.ib0 s.ya1.toNat))))))⟩:Pln)⟩:Tp)) (sl t1.2 (sl (!(lc6 4 [(0,(.int .i64)),(1,(.int .i64)),(2,(.int .i64)),(3,(.int .i64))] [(i t1.1.px),(i t1.1.py),(i t1.1.pz),(i t1.1.pw)] s.eh7)) (sl (okE tP p.ua2) (sl (Z4 (rt tP p.ua2) t1.1) (sl t2 (sl (Nat.beq s.Za8 (len s.eh6)&&Nat.ble ((s.Za8+1)*32) room) (k ⟨1,(W (s.ya1+1)),(s.Za8+1),(app s.eh6 [[(i t1.1.px),(i t1.1.py),(i t1.1.pz),(i t1.1.pw)]]),(xb6 [(0,(.int .i64)),(1,(.int .i64)),(2,(.int .i64)),(3,(.int .i64))] [(i t1.1.px),(i t1.1.py),(i t1.1.pz),(i t1.1.pw)] [(i t1.1.px),(i t1.1.py),(i t1.1.pz),(i t1.1.pw),(b true)] s.eh7)⟩) z) (k ⟨1,(W (s.ya1+1)),s.Za8,s.eh6,s.eh7⟩)) z) z) (k ⟨1,(W (s.ya1+1)),s.Za8,s.eh6,s.eh7⟩)) (k ⟨1,(W (s.ya1+1)),s.Za8,s.eh6,s.eh7⟩)) z) z) z) (e 2))
noncomputable def w7 (p:i9) (s:j6):Stp j6:=(sel (Nat.beq s.ph 1) (z8 .next .exit .fail p s) (z7 .next .exit .fail p s))
noncomputable def ra9:Lo i9 j6:=⟨En fa4,0,Ae8,[1,1,1,0,1,4,4,1,4,4,1,1,0,4,1,1,4,4,1,1,0,4,1,1,4,4],[1,3,4,6,9,10,11,19,20,21,31,32,33,47,49,50,51,52],.p,[⟨((.s (.o .unk))::((.s (.o (.ptr 0 0 0 0)))::((.s (.o .unk))::((.s (.o (.int .i64)))::((.s (.o (.ptr 1 0 0 0)))::((.s (.o .unk))::((.s (.o (.ptr 2 0 0 0)))::((.s (.o .unk))::((.s (.o .unk))::((.s (.c 4 (nL tP)))::((.s (.o (.int .i64)))::((.s (.o (.int .i64)))::(ru2 7 ((.s (.o (.tree 4)))::((.s (.o (.int .i64)))::((.s (.o (.int .i64)))::(ru2 9 ((.s (.o (.tree 4)))::((.s (.o (.int .i64)))::((.s (.o (.int .i64)))::(ru2 13 ((.s (.o (.lit .i64 0)))::((.s (.o .unk))::((.s (.o (.ptr 3 0 0 0)))::((.s (.o .nil))::((.s (.o (.ptr 4 0 0 0)))::((.s (.o (.ptr 5 0 0 0)))::(ru2 31 [])))))))))))))))))))))))))))),[⟨0,1,true,(some [[(.c 4 (nL tP))]])⟩,⟨0,4,true,(some [[(.o (.int .i64)),(.o (.int .i64)),(.o (.int .i64)),(.o (.int .i64))]])⟩,⟨0,4,true,(some [[(.o (.int .i64)),(.o (.int .i64)),(.o (.int .i64)),(.o (.int .i64))]])⟩,⟨0,1,true,(some [[(.c 4 (nL tP))]])⟩,⟨0,0,true,(some [[(.o .nil)]])⟩,⟨0,0,true,(some [[(.o (.ptr 6 0 0 0))]])⟩,⟨174,0,true,(some [])⟩],fun a H=>(⟨(toI (slT a 3)),(rL tP (slT a 9)),(toI (slT a 10)),(toI (slT a 11)),(toN (slT a 19)),(toG (slT a 19)),(toI (slT a 20)),(toI (slT a 21)),(toN (slT a 31)),(toG (slT a 31)),(toI (slT a 32)),(rL tP (slT (rwT (elT H 0) 0) 0)),(toI (slT (rwT (elT H 1) 0) 0)),(toI (slT (rwT (elT H 1) 0) 1)),(toI (slT (rwT (elT H 1) 0) 2)),(toI (slT (rwT (elT H 1) 0) 3)),(toI (slT (rwT (elT H 2) 0) 0)),(toI (slT (rwT (elT H 2) 0) 1)),(toI (slT (rwT (elT H 2) 0) 2)),(toI (slT (rwT (elT H 2) 0) 3)),(rL tP (slT (rwT (elT H 3) 0) 0))⟩,⟨0,(toI (slT a 33)),0,[],[]⟩)⟩,⟨((.s (.o .unk))::((.s (.o (.ptr 0 0 0 0)))::((.s (.o .unk))::((.s (.o (.int .i64)))::((.s (.o (.ptr 1 0 0 0)))::((.s (.o .unk))::((.s (.o (.ptr 2 0 0 0)))::((.s (.o .unk))::((.s (.o .unk))::((.s (.c 4 (nL tP)))::((.s (.o (.int .i64)))::((.s (.o (.int .i64)))::(ru2 7 ((.s (.o (.tree 4)))::((.s (.o (.int .i64)))::((.s (.o (.int .i64)))::(ru2 9 ((.s (.o (.tree 4)))::((.s (.o (.int .i64)))::((.s (.o (.int .i64)))::(ru2 13 ((.s (.o (.lit .i64 0)))::((.s (.o .unk))::((.s (.o (.ptr 3 0 0 0)))::((.s (.o .nil))::((.s (.o (.ptr 4 0 0 0)))::((.s (.o (.ptr 5 0 0 0)))::(ru2 31 [])))))))))))))))))))))))))))),[⟨0,1,true,(some [[(.c 4 (nL tP))]])⟩,⟨0,4,true,(some [[(.o (.int .i64)),(.o (.int .i64)),(.o (.int .i64)),(.o (.int .i64))]])⟩,⟨0,4,true,(some [[(.o (.int .i64)),(.o (.int .i64)),(.o (.int .i64)),(.o (.int .i64))]])⟩,⟨0,1,true,(some [[(.c 4 (nL tP))]])⟩,⟨0,0,true,(some [[(.o (.sl 6 0 (some 0) none))]])⟩,⟨0,0,true,(some [[(.o (.ptr 7 0 0 0))]])⟩,⟨54,4,true,none⟩,⟨174,0,true,none⟩],fun a H=>(⟨(toI (slT a 3)),(rL tP (slT a 9)),(toI (slT a 10)),(toI (slT a 11)),(toN (slT a 19)),(toG (slT a 19)),(toI (slT a 20)),(toI (slT a 21)),(toN (slT a 31)),(toG (slT a 31)),(toI (slT a 32)),(rL tP (slT (rwT (elT H 0) 0) 0)),(toI (slT (rwT (elT H 1) 0) 0)),(toI (slT (rwT (elT H 1) 0) 1)),(toI (slT (rwT (elT H 1) 0) 2)),(toI (slT (rwT (elT H 1) 0) 3)),(toI (slT (rwT (elT H 2) 0) 0)),(toI (slT (rwT (elT H 2) 0) 1)),(toI (slT (rwT (elT H 2) 0) 2)),(toI (slT (rwT (elT H 2) 0) 3)),(rL tP (slT (rwT (elT H 3) 0) 0))⟩,⟨1,(toI (slT a 33)),(slN (slT (rwT (elT H 4) 0) 0)),(elT H 6),(elT H 7)⟩)⟩],w7,[(some 4,fun p s=>⟨(.unk::((.ptr 0 0 0 0)::(.unk::((i p.is3)::((.ptr 1 0 0 0)::(.unk::((.ptr 2 0 0 0)::(.unk::(.unk::((eL tP p.R7)::((i p.Va5)::((i p.Y7)::(ra 7 ((.tree 4 p.uc8 p.lb1)::((i p.ka2)::((i p.ua1)::(ra 9 ((.tree 4 p.Td6 p.ib0)::((i p.xd7)::((i s.ya1)::((b (decide (s.ya1 < p.xd7)))::(ra 12 ((i 0)::(.unk::((.ptr 3 0 0 0)::((.v (.slice none 0 0))::((.ptr 4 0 0 0)::((.ptr 5 0 0 0)::(ra 31 []))))))))))))))))))))))))))))),[⟨0,1,[[(eL tP p.d8)]],true,false,0⟩,⟨0,4,[[(i p.l5),(i p.l6),(i p.l7),(i p.K6)]],true,false,0⟩,⟨0,4,[[(i p.ha5),(i p.ha6),(i p.ha7),(i p.lb2)]],true,false,0⟩,⟨0,1,[[(eL tP p.ua2)]],true,false,0⟩,⟨0,0,[[(.v (.slice none 0 0))]],true,false,0⟩,⟨0,0,[[(.ptr 6 0 0 0)]],true,false,0⟩,⟨174,0,[],true,false,0⟩]⟩),(some 4,fun p s=>⟨(.unk::((.ptr 0 0 0 0)::(.unk::((i p.is3)::((.ptr 1 0 0 0)::(.unk::((.ptr 2 0 0 0)::(.unk::(.unk::((eL tP p.R7)::((i p.Va5)::((i p.Y7)::(ra 7 ((.tree 4 p.uc8 p.lb1)::((i p.ka2)::((i p.ua1)::(ra 9 ((.tree 4 p.Td6 p.ib0)::((i p.xd7)::((i s.ya1)::((b (decide (s.ya1 < p.xd7)))::(ra 12 ((i 0)::(.unk::((.ptr 3 0 0 0)::((.v (.slice none 0 0))::((.ptr 4 0 0 0)::((.ptr 5 0 0 0)::(ra 31 []))))))))))))))))))))))))))))),[⟨0,1,[[(eL tP p.d8)]],true,false,0⟩,⟨0,4,[[(i p.l5),(i p.l6),(i p.l7),(i p.K6)]],true,false,0⟩,⟨0,4,[[(i p.ha5),(i p.ha6),(i p.ha7),(i p.lb2)]],true,false,0⟩,⟨0,1,[[(eL tP p.ua2)]],true,false,0⟩,⟨0,0,[[(.sl 6 0 s.Za8 0)]],true,false,0⟩,⟨0,0,[[(.ptr 7 0 0 0)]],true,false,0⟩,⟨54,4,s.eh6,true,false,0⟩,⟨174,0,s.eh7,true,false,0⟩]⟩)],yb8⟩
theorem yb9:ra9.OkM:=Lo.okM [] (by kernel_rfl) .nil rfl (.cons (fun a H=>by kernel_rfl) (.cons (fun a H=>by kernel_rfl) .nil)) fun p s=>(.sel (Nat.beq s.ph 1) (.of @z8 (fun F _ _ _ _ _=>by unfold z8;(repeat' apply k9 (f:=F))<;>rfl) (by kernel_rfl)) (.of @z7 (fun F _ _ _ _ _=>by unfold z7;(repeat' apply k9 (f:=F))<;>rfl) (by kernel_rfl)))
structure j7 where
 is3:Int
 Va5:Int
 Y7:Int
 uc8:Nat
 lb1:Nat→List b7
 ka2:Int
 l5:Int
 l6:Int
 l7:Int
 K6:Int
structure j9 where
 ph:Nat
 R7:List Pln
 ua1:Int
 d8:List Pln
 U4:List Pln
 uc9:Nat
 eh5:List (List b7)
 eh6:List (List b7)
noncomputable def tb2 (p:j7) (s:j9):St:=⟨(.unk::((.ptr 0 0 0 0)::(.unk::((i p.is3)::((.ptr 1 0 0 0)::(ra 4 ((eL tP s.R7)::((i p.Va5)::((i p.Y7)::(ra 7 ((.tree 4 p.uc8 p.lb1)::((i p.ka2)::((i s.ua1)::(ra 25 ((i 0)::(.unk::((.ptr 2 0 0 0)::((.v (.slice none 0 0))::((.ptr 3 0 0 0)::((.ptr 4 0 0 0)::(ra 31 []))))))))))))))))))))),[⟨0,1,[[(eL tP s.d8)]],true,false,0⟩,⟨0,4,[[(i p.l5),(i p.l6),(i p.l7),(i p.K6)]],true,false,0⟩,⟨0,1,[[(eL tP s.U4)]],true,false,0⟩,⟨0,0,[[(.v (.slice none 0 0))]],true,false,0⟩,⟨0,0,[[(.ptr 5 0 0 0)]],true,false,0⟩,⟨174,0,[],true,false,0⟩]⟩
noncomputable def tb3 (p:j7) (s:j9):St:=⟨(.unk::((.ptr 0 0 0 0)::(.unk::((i p.is3)::((.ptr 1 0 0 0)::(ra 4 ((eL tP s.R7)::((i p.Va5)::((i p.Y7)::(ra 7 ((.tree 4 p.uc8 p.lb1)::((i p.ka2)::((i s.ua1)::(ra 25 ((i 0)::(.unk::((.ptr 2 0 0 0)::((.v (.slice none 0 0))::((.ptr 3 0 0 0)::((.ptr 4 0 0 0)::(ra 31 []))))))))))))))))))))),[⟨0,1,[[(eL tP s.d8)]],true,false,0⟩,⟨0,4,[[(i p.l5),(i p.l6),(i p.l7),(i p.K6)]],true,false,0⟩,⟨0,1,[[(eL tP s.U4)]],true,false,0⟩,⟨0,0,[[(.sl 5 0 s.uc9 0)]],true,false,0⟩,⟨0,0,[[(.ptr 6 0 0 0)]],true,false,0⟩,⟨54,4,s.eh5,true,false,0⟩,⟨174,0,s.eh6,true,false,0⟩]⟩
noncomputable def zb0 (p:j7) (s:j9):St:=(sel (Nat.beq s.ph 1) (tb3 p s) (tb2 p s))
noncomputable def A0 {α:Type} (k:j9→α) (e:Nat→α) (z:α) (p:j7) (s:j9):α:=let t1:=(lp (w7 (⟨p.is3,(rt tP s.R7),p.Va5,p.Y7,p.uc8,p.lb1,p.ka2,s.ua1,((List.length s.d8) - (W ((W (p.is3+s.ua1))+2)).toNat),(fun k=>(fun k=>(tP).row (gL tP s.d8 k)) ((W ((W (p.is3+s.ua1))+2)).toNat+k)),(↑((List.length s.d8) - (W ((W (p.is3+s.ua1))+2)).toNat):Int),(rt tP s.d8),p.l5,p.l6,p.l7,p.K6,(toI (hdA (p.lb1 s.ua1.toNat))),(toI (hdA (tlA (p.lb1 s.ua1.toNat)))),(toI (hdA (tlA (tlA (p.lb1 s.ua1.toNat))))),(toI (hdA (tlA (tlA (tlA (p.lb1 s.ua1.toNat)))))),(rt tP s.U4)⟩:i9)) (⟨0,0,0,[],[]⟩:j6));(sl (decide (s.ua1 < p.ka2)) (sl (inB s.ua1 p.uc8) (sl ((Nat.ble 4 (len (p.lb1 s.ua1.toNat)))&&(K7 [(CK.int .i64),(CK.int .i64),(CK.int .i64),(CK.int .i64)] (p.lb1 s.ua1.toNat))) (sl (inB (W ((W (p.is3+s.ua1))+2)) ((List.length s.d8)+1)) (sl ((cnE tP s.R7)&&((cnE tP s.d8)&&((cnE tP s.U4)&&true))) (sl (Nat.beq t1.1 1) (k ⟨0,(rt tP s.R7),(W (s.ua1+1)),(rt tP s.d8),(rt tP s.U4),0,[],[]⟩) (sl (Nat.beq t1.1 2) (k ⟨1,(rt tP s.R7),(W (s.ua1+1)),(rt tP s.d8),(rt tP s.U4),t1.2.Za8,t1.2.eh6,t1.2.eh7⟩) z)) z) z) z) z) (e 1))
noncomputable def A1 {α:Type} (k:j9→α) (e:Nat→α) (z:α) (p:j7) (s:j9):α:=let t1:=(lp (w7 (⟨p.is3,(rt tP s.R7),p.Va5,p.Y7,p.uc8,p.lb1,p.ka2,s.ua1,((List.length s.d8) - (W ((W (p.is3+s.ua1))+2)).toNat),(fun k=>(fun k=>(tP).row (gL tP s.d8 k)) ((W ((W (p.is3+s.ua1))+2)).toNat+k)),(↑((List.length s.d8) - (W ((W (p.is3+s.ua1))+2)).toNat):Int),(rt tP s.d8),p.l5,p.l6,p.l7,p.K6,(toI (hdA (p.lb1 s.ua1.toNat))),(toI (hdA (tlA (p.lb1 s.ua1.toNat)))),(toI (hdA (tlA (tlA (p.lb1 s.ua1.toNat))))),(toI (hdA (tlA (tlA (tlA (p.lb1 s.ua1.toNat)))))),(rt tP s.U4)⟩:i9)) (⟨1,0,s.uc9,s.eh5,s.eh6⟩:j6));(sl (decide (s.ua1 < p.ka2)) (sl (inB s.ua1 p.uc8) (sl ((Nat.ble 4 (len (p.lb1 s.ua1.toNat)))&&(K7 [(CK.int .i64),(CK.int .i64),(CK.int .i64),(CK.int .i64)] (p.lb1 s.ua1.toNat))) (sl (inB (W ((W (p.is3+s.ua1))+2)) ((List.length s.d8)+1)) (sl ((cnE tP s.R7)&&((cnE tP s.d8)&&((cnE tP s.U4)&&true))) (sl (Nat.beq t1.1 1) (k ⟨0,(rt tP s.R7),(W (s.ua1+1)),(rt tP s.d8),(rt tP s.U4),0,[],[]⟩) (sl (Nat.beq t1.1 2) (k ⟨1,(rt tP s.R7),(W (s.ua1+1)),(rt tP s.d8),(rt tP s.U4),t1.2.Za8,t1.2.eh6,t1.2.eh7⟩) z)) z) z) z) z) (e 2))
noncomputable def w8 (p:j7) (s:j9):Stp j9:=(sel (Nat.beq s.ph 1) (A1 .next .exit .fail p s) (A0 .next .exit .fail p s))
noncomputable def sa0:Lo j7 j9:=⟨En fa4,0,Ae8,[1,1,1,0,1,4,4,1,4,4,1,1,0,4,1,1,4,4],[1,3,4,9,10,11,19,20,21,47,49,50,51,52],(.s .p (.s .p (.s (.b (.s .p (.s .p (.b (.u ra9.lsM))))) .p))),[⟨((.s (.o .unk))::((.s (.o (.ptr 0 0 0 0)))::((.s (.o .unk))::((.s (.o (.int .i64)))::((.s (.o (.ptr 1 0 0 0)))::(ru2 4 ((.s (.c 4 (nL tP)))::((.s (.o (.int .i64)))::((.s (.o (.int .i64)))::(ru2 7 ((.s (.o (.tree 4)))::((.s (.o (.int .i64)))::((.s (.o (.int .i64)))::(ru2 25 ((.s (.o (.lit .i64 0)))::((.s (.o .unk))::((.s (.o (.ptr 2 0 0 0)))::((.s (.o .nil))::((.s (.o (.ptr 3 0 0 0)))::((.s (.o (.ptr 4 0 0 0)))::(ru2 31 []))))))))))))))))))))),[⟨0,1,true,(some [[(.c 4 (nL tP))]])⟩,⟨0,4,true,(some [[(.o (.int .i64)),(.o (.int .i64)),(.o (.int .i64)),(.o (.int .i64))]])⟩,⟨0,1,true,(some [[(.c 4 (nL tP))]])⟩,⟨0,0,true,(some [[(.o .nil)]])⟩,⟨0,0,true,(some [[(.o (.ptr 5 0 0 0))]])⟩,⟨174,0,true,(some [])⟩],fun a H=>(⟨(toI (slT a 3)),(toI (slT a 10)),(toI (slT a 11)),(toN (slT a 19)),(toG (slT a 19)),(toI (slT a 20)),(toI (slT (rwT (elT H 1) 0) 0)),(toI (slT (rwT (elT H 1) 0) 1)),(toI (slT (rwT (elT H 1) 0) 2)),(toI (slT (rwT (elT H 1) 0) 3))⟩,⟨0,(rL tP (slT a 9)),(toI (slT a 21)),(rL tP (slT (rwT (elT H 0) 0) 0)),(rL tP (slT (rwT (elT H 2) 0) 0)),0,[],[]⟩)⟩,⟨((.s (.o .unk))::((.s (.o (.ptr 0 0 0 0)))::((.s (.o .unk))::((.s (.o (.int .i64)))::((.s (.o (.ptr 1 0 0 0)))::(ru2 4 ((.s (.c 4 (nL tP)))::((.s (.o (.int .i64)))::((.s (.o (.int .i64)))::(ru2 7 ((.s (.o (.tree 4)))::((.s (.o (.int .i64)))::((.s (.o (.int .i64)))::(ru2 25 ((.s (.o (.lit .i64 0)))::((.s (.o .unk))::((.s (.o (.ptr 2 0 0 0)))::((.s (.o .nil))::((.s (.o (.ptr 3 0 0 0)))::((.s (.o (.ptr 4 0 0 0)))::(ru2 31 []))))))))))))))))))))),[⟨0,1,true,(some [[(.c 4 (nL tP))]])⟩,⟨0,4,true,(some [[(.o (.int .i64)),(.o (.int .i64)),(.o (.int .i64)),(.o (.int .i64))]])⟩,⟨0,1,true,(some [[(.c 4 (nL tP))]])⟩,⟨0,0,true,(some [[(.o (.sl 5 0 (some 0) none))]])⟩,⟨0,0,true,(some [[(.o (.ptr 6 0 0 0))]])⟩,⟨54,4,true,none⟩,⟨174,0,true,none⟩],fun a H=>(⟨(toI (slT a 3)),(toI (slT a 10)),(toI (slT a 11)),(toN (slT a 19)),(toG (slT a 19)),(toI (slT a 20)),(toI (slT (rwT (elT H 1) 0) 0)),(toI (slT (rwT (elT H 1) 0) 1)),(toI (slT (rwT (elT H 1) 0) 2)),(toI (slT (rwT (elT H 1) 0) 3))⟩,⟨1,(rL tP (slT a 9)),(toI (slT a 21)),(rL tP (slT (rwT (elT H 0) 0) 0)),(rL tP (slT (rwT (elT H 2) 0) 0)),(slN (slT (rwT (elT H 3) 0) 0)),(elT H 5),(elT H 6)⟩)⟩],w8,[(some 2,fun p s=>⟨(.unk::((.ptr 0 0 0 0)::(.unk::((i p.is3)::((.ptr 1 0 0 0)::(ra 4 ((eL tP s.R7)::((i p.Va5)::((i p.Y7)::(ra 7 ((.tree 4 p.uc8 p.lb1)::((i p.ka2)::((i s.ua1)::((b (decide (s.ua1 < p.ka2)))::(ra 24 ((i 0)::(.unk::((.ptr 2 0 0 0)::((.v (.slice none 0 0))::((.ptr 3 0 0 0)::((.ptr 4 0 0 0)::(ra 31 [])))))))))))))))))))))),[⟨0,1,[[(eL tP s.d8)]],true,false,0⟩,⟨0,4,[[(i p.l5),(i p.l6),(i p.l7),(i p.K6)]],true,false,0⟩,⟨0,1,[[(eL tP s.U4)]],true,false,0⟩,⟨0,0,[[(.v (.slice none 0 0))]],true,false,0⟩,⟨0,0,[[(.ptr 5 0 0 0)]],true,false,0⟩,⟨174,0,[],true,false,0⟩]⟩),(some 2,fun p s=>⟨(.unk::((.ptr 0 0 0 0)::(.unk::((i p.is3)::((.ptr 1 0 0 0)::(ra 4 ((eL tP s.R7)::((i p.Va5)::((i p.Y7)::(ra 7 ((.tree 4 p.uc8 p.lb1)::((i p.ka2)::((i s.ua1)::((b (decide (s.ua1 < p.ka2)))::(ra 24 ((i 0)::(.unk::((.ptr 2 0 0 0)::((.v (.slice none 0 0))::((.ptr 3 0 0 0)::((.ptr 4 0 0 0)::(ra 31 [])))))))))))))))))))))),[⟨0,1,[[(eL tP s.d8)]],true,false,0⟩,⟨0,4,[[(i p.l5),(i p.l6),(i p.l7),(i p.K6)]],true,false,0⟩,⟨0,1,[[(eL tP s.U4)]],true,false,0⟩,⟨0,0,[[(.sl 5 0 s.uc9 0)]],true,false,0⟩,⟨0,0,[[(.ptr 6 0 0 0)]],true,false,0⟩,⟨54,4,s.eh5,true,false,0⟩,⟨174,0,s.eh6,true,false,0⟩]⟩)],zb0⟩
theorem zb1:sa0.OkM:=Lo.okM [ra9.prM] (by kernel_rfl) (.cons yb9 .nil) rfl (.cons (fun a H=>by kernel_rfl) (.cons (fun a H=>by kernel_rfl) .nil)) fun p s=>(.sel (Nat.beq s.ph 1) (.of @A1 (fun F _ _ _ _ _=>by unfold A1;(repeat' apply k9 (f:=F))<;>rfl) (by kernel_rfl)) (.of @A0 (fun F _ _ _ _ _=>by unfold A0;(repeat' apply k9 (f:=F))<;>rfl) (by kernel_rfl)))
structure q8 where
 Va5:Int
structure l8 where
 ph:Nat
 R7:List Pln
 Y7:Int
 d8:List Pln
 Pa7:List Pln
 Kc4:Nat
 eh4:List (List b7)
 eh5:List (List b7)
noncomputable def tb4 (p:q8) (s:l8):St:=⟨(.unk::((.ptr 0 0 0 0)::(ra 7 ((eL tP s.R7)::((i p.Va5)::((i s.Y7)::(ra 35 ((i 0)::(.unk::((.ptr 1 0 0 0)::((.v (.slice none 0 0))::((.ptr 2 0 0 0)::((.ptr 3 0 0 0)::(ra 31 [])))))))))))))),[⟨0,1,[[(eL tP s.d8)]],true,false,0⟩,⟨0,1,[[(eL tP s.Pa7)]],true,false,0⟩,⟨0,0,[[(.v (.slice none 0 0))]],true,false,0⟩,⟨0,0,[[(.ptr 4 0 0 0)]],true,false,0⟩,⟨174,0,[],true,false,0⟩]⟩
noncomputable def tb5 (p:q8) (s:l8):St:=⟨(.unk::((.ptr 0 0 0 0)::(ra 7 ((eL tP s.R7)::((i p.Va5)::((i s.Y7)::(ra 35 ((i 0)::(.unk::((.ptr 1 0 0 0)::((.v (.slice none 0 0))::((.ptr 2 0 0 0)::((.ptr 3 0 0 0)::(ra 31 [])))))))))))))),[⟨0,1,[[(eL tP s.d8)]],true,false,0⟩,⟨0,1,[[(eL tP s.Pa7)]],true,false,0⟩,⟨0,0,[[(.sl 4 0 s.Kc4 0)]],true,false,0⟩,⟨0,0,[[(.ptr 5 0 0 0)]],true,false,0⟩,⟨54,4,s.eh4,true,false,0⟩,⟨174,0,s.eh5,true,false,0⟩]⟩
noncomputable def zb2 (p:q8) (s:l8):St:=(sel (Nat.beq s.ph 1) (tb5 p s) (tb4 p s))
noncomputable def A2 {α:Type} (k:l8→α) (e:Nat→α) (z:α) (p:q8) (s:l8):α:=let t1:=(lp (w8 (⟨s.Y7,p.Va5,s.Y7,((List.length s.d8) - (W (s.Y7+1)).toNat),(fun k=>(fun k=>(tP).row (gL tP s.d8 k)) ((W (s.Y7+1)).toNat+k)),(↑((List.length s.d8) - (W (s.Y7+1)).toNat):Int),(gL tP s.R7 s.Y7.toNat).n.x,(gL tP s.R7 s.Y7.toNat).n.y,(gL tP s.R7 s.Y7.toNat).n.z,(gL tP s.R7 s.Y7.toNat).b⟩:j7)) (⟨0,(rt tP s.R7),0,(rt tP s.d8),(rt tP s.Pa7),0,[],[]⟩:j9));(sl (decide (s.Y7 < p.Va5)) (sl (inB s.Y7 (List.length s.R7)) (sl (inB (W (s.Y7+1)) ((List.length s.d8)+1)) (sl ((cnE tP s.R7)&&((cnE tP s.d8)&&((cnE tP s.Pa7)&&true))) (sl (Nat.beq t1.1 1) (k ⟨0,t1.2.R7,(W (s.Y7+1)),t1.2.d8,t1.2.U4,0,[],[]⟩) (sl (Nat.beq t1.1 2) (k ⟨1,t1.2.R7,(W (s.Y7+1)),t1.2.d8,t1.2.U4,t1.2.uc9,t1.2.eh5,t1.2.eh6⟩) z)) z) z) z) (e 1))
noncomputable def A3 {α:Type} (k:l8→α) (e:Nat→α) (z:α) (p:q8) (s:l8):α:=let t1:=(lp (w8 (⟨s.Y7,p.Va5,s.Y7,((List.length s.d8) - (W (s.Y7+1)).toNat),(fun k=>(fun k=>(tP).row (gL tP s.d8 k)) ((W (s.Y7+1)).toNat+k)),(↑((List.length s.d8) - (W (s.Y7+1)).toNat):Int),(gL tP s.R7 s.Y7.toNat).n.x,(gL tP s.R7 s.Y7.toNat).n.y,(gL tP s.R7 s.Y7.toNat).n.z,(gL tP s.R7 s.Y7.toNat).b⟩:j7)) (⟨1,(rt tP s.R7),0,(rt tP s.d8),(rt tP s.Pa7),s.Kc4,s.eh4,s.eh5⟩:j9));(sl (decide (s.Y7 < p.Va5)) (sl (inB s.Y7 (List.length s.R7)) (sl (inB (W (s.Y7+1)) ((List.length s.d8)+1)) (sl ((cnE tP s.R7)&&((cnE tP s.d8)&&((cnE tP s.Pa7)&&true))) (sl (Nat.beq t1.1 1) (k ⟨0,t1.2.R7,(W (s.Y7+1)),t1.2.d8,t1.2.U4,0,[],[]⟩) (sl (Nat.beq t1.1 2) (k ⟨1,t1.2.R7,(W (s.Y7+1)),t1.2.d8,t1.2.U4,t1.2.uc9,t1.2.eh5,t1.2.eh6⟩) z)) z) z) z) (e 2))
noncomputable def w9 (p:q8) (s:l8):Stp l8:=(sel (Nat.beq s.ph 1) (A3 .next .exit .fail p s) (A2 .next .exit .fail p s))
noncomputable def sa1:Lo q8 l8:=⟨En fa4,0,Ae8,[1,1,1,0,1,4,4,1,4,4],[1,9,10,11,47,49,50,51,52],(.s .p (.s .p (.s (.b (.s .p (.s .p (.b (.u sa0.lsM))))) .p))),[⟨((.s (.o .unk))::((.s (.o (.ptr 0 0 0 0)))::(ru2 7 ((.s (.c 4 (nL tP)))::((.s (.o (.int .i64)))::((.s (.o (.int .i64)))::(ru2 35 ((.s (.o (.lit .i64 0)))::((.s (.o .unk))::((.s (.o (.ptr 1 0 0 0)))::((.s (.o .nil))::((.s (.o (.ptr 2 0 0 0)))::((.s (.o (.ptr 3 0 0 0)))::(ru2 31 [])))))))))))))),[⟨0,1,true,(some [[(.c 4 (nL tP))]])⟩,⟨0,1,true,(some [[(.c 4 (nL tP))]])⟩,⟨0,0,true,(some [[(.o .nil)]])⟩,⟨0,0,true,(some [[(.o (.ptr 4 0 0 0))]])⟩,⟨174,0,true,(some [])⟩],fun a H=>(⟨(toI (slT a 10))⟩,⟨0,(rL tP (slT a 9)),(toI (slT a 11)),(rL tP (slT (rwT (elT H 0) 0) 0)),(rL tP (slT (rwT (elT H 1) 0) 0)),0,[],[]⟩)⟩,⟨((.s (.o .unk))::((.s (.o (.ptr 0 0 0 0)))::(ru2 7 ((.s (.c 4 (nL tP)))::((.s (.o (.int .i64)))::((.s (.o (.int .i64)))::(ru2 35 ((.s (.o (.lit .i64 0)))::((.s (.o .unk))::((.s (.o (.ptr 1 0 0 0)))::((.s (.o .nil))::((.s (.o (.ptr 2 0 0 0)))::((.s (.o (.ptr 3 0 0 0)))::(ru2 31 [])))))))))))))),[⟨0,1,true,(some [[(.c 4 (nL tP))]])⟩,⟨0,1,true,(some [[(.c 4 (nL tP))]])⟩,⟨0,0,true,(some [[(.o (.sl 4 0 (some 0) none))]])⟩,⟨0,0,true,(some [[(.o (.ptr 5 0 0 0))]])⟩,⟨54,4,true,none⟩,⟨174,0,true,none⟩],fun a H=>(⟨(toI (slT a 10))⟩,⟨1,(rL tP (slT a 9)),(toI (slT a 11)),(rL tP (slT (rwT (elT H 0) 0) 0)),(rL tP (slT (rwT (elT H 1) 0) 0)),(slN (slT (rwT (elT H 2) 0) 0)),(elT H 4),(elT H 5)⟩)⟩],w9,[(some 0,fun p s=>⟨(.unk::((.ptr 0 0 0 0)::(ra 7 ((eL tP s.R7)::((i p.Va5)::((i s.Y7)::((b (decide (s.Y7 < p.Va5)))::(ra 34 ((i 0)::(.unk::((.ptr 1 0 0 0)::((.v (.slice none 0 0))::((.ptr 2 0 0 0)::((.ptr 3 0 0 0)::(ra 31 []))))))))))))))),[⟨0,1,[[(eL tP s.d8)]],true,false,0⟩,⟨0,1,[[(eL tP s.Pa7)]],true,false,0⟩,⟨0,0,[[(.v (.slice none 0 0))]],true,false,0⟩,⟨0,0,[[(.ptr 4 0 0 0)]],true,false,0⟩,⟨174,0,[],true,false,0⟩]⟩),(some 0,fun p s=>⟨(.unk::((.ptr 0 0 0 0)::(ra 7 ((eL tP s.R7)::((i p.Va5)::((i s.Y7)::((b (decide (s.Y7 < p.Va5)))::(ra 34 ((i 0)::(.unk::((.ptr 1 0 0 0)::((.v (.slice none 0 0))::((.ptr 2 0 0 0)::((.ptr 3 0 0 0)::(ra 31 []))))))))))))))),[⟨0,1,[[(eL tP s.d8)]],true,false,0⟩,⟨0,1,[[(eL tP s.Pa7)]],true,false,0⟩,⟨0,0,[[(.sl 4 0 s.Kc4 0)]],true,false,0⟩,⟨0,0,[[(.ptr 5 0 0 0)]],true,false,0⟩,⟨54,4,s.eh4,true,false,0⟩,⟨174,0,s.eh5,true,false,0⟩]⟩)],zb2⟩
theorem zb3:sa1.OkM:=Lo.okM [sa0.prM] (by kernel_rfl) (.cons zb1 .nil) rfl (.cons (fun a H=>by kernel_rfl) (.cons (fun a H=>by kernel_rfl) .nil)) fun p s=>(.sel (Nat.beq s.ph 1) (.of @A3 (fun F _ _ _ _ _=>by unfold A3;(repeat' apply k9 (f:=F))<;>rfl) (by kernel_rfl)) (.of @A2 (fun F _ _ _ _ _=>by unfold A2;(repeat' apply k9 (f:=F))<;>rfl) (by kernel_rfl)))
noncomputable def X6 (x:List Pln):Option (b7×List b8):=let t1:=(lp (w9 (⟨(↑(List.length x):Int)⟩:q8)) (⟨0,(rt tP x),0,(rt tP x),(rt tP x),0,[],[]⟩:l8));(sl ((cnE tP x)&&((cnE tP x)&&((cnE tP x)&&true))) (sl (Nat.beq t1.1 1) (some ((.v (.slice none 0 0)),[])) (sl (Nat.beq t1.1 2) (some ((.sl 0 0 t1.2.Kc4 0),[⟨54,4,t1.2.eh4,true,false,0⟩])) none)) none)
noncomputable def X7 (x:List Pln):List Pt:=L4 (one (r1L tX)) (X6 x)
noncomputable def X8 (x:List Pln):Bool:=okO (one (r1L tX)) (X6 x)
noncomputable def Aa1:Sum:=S3 (X5 tP) (fun x=>.guard (X8 x) (.ret ((one (r1L tX)).enc (X7 x),[])))
theorem Ra9:g9 prog G 89 Aa1:=Aa9 (bd b89 Db3) (one (r1L tX)) (o:=X6) fun x=>Je9 (.s .p (.s .p (.s .p (.s (.s .p (.b (.i (.s .p (.b (.u sa1.lsM)))))) .p)))) [sa1.prM] (by kernel_rfl) (.cons zb3 .nil) (by kernel_rfl)
end Go.Ev.Ce
end
section
namespace Go.Ev.Ce
open Go Go.Ev Go.Ev.L Go.Proofs
set_option maxRecDepth 100000
noncomputable def Mb5:List (Nat×Sum):=[]
theorem yc4:i6 prog G Mb5:=trivial
structure sa2 where
 is0:Int
 Ld8:List Int
 is8:Int
structure L7 where
 is9:Int
noncomputable def qc3 (p:sa2) (s:L7):St:=⟨((i p.is0)::(ra 6 ((eL tI p.Ld8)::((i p.is8)::((i s.is9)::(ra 13 [])))))),[]⟩
noncomputable def ia3 {α:Type} (k:L7→α) (e:Nat→α) (z:α) (p:sa2) (s:L7):α:=(sl (decide (s.is9 < p.is8)) (sl (inB s.is9 (List.length p.Ld8)) (sl (decide ((gL tI p.Ld8 s.is9.toNat) < (W (0 - p.is0)))) (e 1) (sl (decide ((gL tI p.Ld8 s.is9.toNat) > p.is0)) (e 1) (k ⟨(W (s.is9+1))⟩))) z) (e 2))
noncomputable def na0 (p:sa2) (s:L7):Stp L7:=ia3 .next .exit .fail p s
noncomputable def Xa1:Lo sa2 L7:=⟨En Mb5,0,Ie1,[1,0,1,4,4],[0,7,8,9],.p,[⟨((.s (.o (.int .i64)))::(ru2 6 ((.s (.c 1 (nL tI)))::((.s (.o (.int .i64)))::((.s (.o (.int .i64)))::(ru2 13 [])))))),[],fun a H=>(⟨(toI (slT a 0)),(rL tI (slT a 7)),(toI (slT a 8))⟩,⟨(toI (slT a 9))⟩)⟩],na0,[(none,fun p s=>⟨[(b false)],[]⟩),(some 0,fun p s=>⟨((i p.is0)::(ra 6 ((eL tI p.Ld8)::((i p.is8)::((i s.is9)::((b (decide (s.is9 < p.is8)))::(ra 12 []))))))),[]⟩)],qc3⟩
theorem qc4:Xa1.Ok:=Lo.ok [] (by kernel_rfl) .nil rfl (.cons (fun a H=>by kernel_rfl) .nil) fun p s=>(.of @ia3 (fun F _ _ _ _ _=>by unfold ia3;(repeat' apply k9 (f:=F))<;>rfl) (by kernel_rfl))
noncomputable def Ca5 (x:Int) (y:List Int):Option (b7×List b8):=let t1:=(lp (na0 (⟨x,(rt tI y),(↑(List.length y):Int)⟩:sa2)) (⟨0⟩:L7));(sl ((cnE tI y)&&true) (sl (Nat.beq t1.1 1) (some ((b false),[])) (sl (Nat.beq t1.1 2) (some ((b true),[])) none)) none)
noncomputable def sa3 (x:Int) (y:List Int):Bool:=L4 (one r1B) (Ca5 x y)
noncomputable def sa4 (x:Int) (y:List Int):Bool:=okO (one r1B) (Ca5 x y)
noncomputable def pb2:Sum:=pa2 cI (X5 tI) (fun x y=>.guard (sa4 x y) (.ret ((one r1B).enc (sa3 x y),[])))
theorem Mb6:g9 prog G 164 pb2:=ib8 (bd jf0 yc4) (one r1B) (o:=Ca5) fun x y=>ua4 (.s .p (.s (.s .p (.b (.u Xa1.ls))) .p)) [Xa1.pr] (by kernel_rfl) (.cons qc4 .nil) (by kernel_rfl)
noncomputable def qc5:List (Nat×Sum):=[]
theorem ic4:i6 prog G qc5:=trivial
noncomputable def Ga3 (x:Int):Int:=(if (W (0 - x)) > x then (W (0 - x)) else x)
noncomputable def Db4:Sum:=S3 cI (fun x=>.ret ((one r1I).enc (Ga3 x),[]))
theorem qc6:g9 prog G 214 Db4:=Gb8 (bd lf5 ic4) fun x=>s6 (by kernel_rfl)
noncomputable def Xa2:List (Nat×Sum):=[(214,Db4)]
theorem qc7:i6 prog G Xa2:=⟨qc6,trivial⟩
structure ca3 where
 Ha8:List Int
 is7:Int
 is8:Int
structure N0 where
 is3:Int
 is5:Int
noncomputable def ic5 (p:ca3) (s:N0):St:=⟨(ra 3 ((i s.is3)::(.unk::((i s.is5)::((eL tI p.Ha8)::((i p.is7)::((i p.is8)::(ra 15 [])))))))),[]⟩
noncomputable def ea4 {α:Type} (k:N0→α) (e:Nat→α) (z:α) (p:ca3) (s:N0):α:=(sl (decide (s.is5 > 0)) (sl (s.is5==0) z (k ⟨s.is5,(Int.tmod s.is3 s.is5)⟩)) (e 1))
noncomputable def Y5 (p:ca3) (s:N0):Stp N0:=ea4 .next .exit .fail p s
noncomputable def Sa0:Lo ca3 N0:=⟨En Xa2,0,ne5,[1,1,0,1,4,4,1,1,0,4,1,1,1,4,4],[3,5,6,7,8],.p,[⟨(ru2 3 ((.s (.o (.int .i64)))::((.s (.o .unk))::((.s (.o (.int .i64)))::((.s (.c 1 (nL tI)))::((.s (.o (.int .i64)))::((.s (.o (.int .i64)))::(ru2 15 [])))))))),[],fun a H=>(⟨(rL tI (slT a 6)),(toI (slT a 7)),(toI (slT a 8))⟩,⟨(toI (slT a 3)),(toI (slT a 5))⟩)⟩],Y5,[(some 2,fun p s=>⟨(ra 3 ((i s.is3)::(.unk::((i s.is5)::((eL tI p.Ha8)::((i p.is7)::((i p.is8)::(ra 7 ((i s.is5)::((b (decide (s.is5 > 0)))::(ra 6 []))))))))))),[]⟩)],ic5⟩
theorem ic6:Sa0.Ok:=Lo.ok [] (by kernel_rfl) .nil rfl (.cons (fun a H=>by kernel_rfl) .nil) fun p s=>(.of @ea4 (fun F _ _ _ _ _=>by unfold ea4;(repeat' apply k9 (f:=F))<;>rfl) (by kernel_rfl))
structure na1 where
 is7:Int
structure I7 where
 is3:Int
 Ha8:List Int
 is8:Int
noncomputable def ic7 (p:na1) (s:I7):St:=⟨(ra 3 ((i s.is3)::(.unk::(.unk::((eL tI s.Ha8)::((i p.is7)::((i s.is8)::(ra 15 [])))))))),[]⟩
noncomputable def ea5 {α:Type} (k:I7→α) (e:Nat→α) (z:α) (p:na1) (s:I7):α:=let t1:=(Ga3 (gL tI s.Ha8 s.is8.toNat));let t2:=(lp (Y5 (⟨(rt tI s.Ha8),p.is7,s.is8⟩:ca3)) (⟨s.is3,t1⟩:N0));(sl (decide (s.is8 < p.is7)) (sl (inB s.is8 (List.length s.Ha8)) (sl ((gL tI s.Ha8 s.is8.toNat)==(-9223372036854775808)) (e 1) (sl ((cnE tI s.Ha8)&&true) (sl (Nat.beq t2.1 1) (k ⟨t2.2.is3,(rt tI s.Ha8),(W (s.is8+1))⟩) z) z)) z) (e 2))
noncomputable def ia4 (p:na1) (s:I7):Stp I7:=ea5 .next .exit .fail p s
noncomputable def Sa1:Lo na1 I7:=⟨En Xa2,0,ne5,[1,1,0,1,4,4],[3,6,7,8],(.s .p (.s .p (.s (.b (.s .p (.s .p (.s .p (.b (.u Sa0.ls)))))) .p))),[⟨(ru2 3 ((.s (.o (.int .i64)))::((.s (.o .unk))::((.s (.o .unk))::((.s (.c 1 (nL tI)))::((.s (.o (.int .i64)))::((.s (.o (.int .i64)))::(ru2 15 [])))))))),[],fun a H=>(⟨(toI (slT a 7))⟩,⟨(toI (slT a 3)),(rL tI (slT a 6)),(toI (slT a 8))⟩)⟩],ia4,[(none,fun p s=>⟨[(i 0)],[]⟩),(some 0,fun p s=>⟨(ra 3 ((i s.is3)::(.unk::(.unk::((eL tI s.Ha8)::((i p.is7)::((i s.is8)::((b (decide (s.is8 < p.is7)))::(ra 14 []))))))))),[]⟩)],ic7⟩
theorem ic8:Sa1.Ok:=Lo.ok [Sa0.pr] (by kernel_rfl) (.cons ic6 .nil) rfl (.cons (fun a H=>by kernel_rfl) .nil) fun p s=>(.of @ea5 (fun F _ _ _ _ _=>by unfold ea5;(repeat' apply k9 (f:=F))<;>rfl) (by kernel_rfl))
noncomputable def xa0 (x:List Int):Option (b7×List b8):=let t1:=(lp (ia4 (⟨(↑(List.length x):Int)⟩:na1)) (⟨0,(rt tI x),0⟩:I7));(sl ((cnE tI x)&&true) (sl (Nat.beq t1.1 1) (some ((i 0),[])) (sl (Nat.beq t1.1 2) (some ((i t1.2.is3),[])) none)) none)
noncomputable def Ma2 (x:List Int):Int:=L4 (one r1I) (xa0 x)
noncomputable def Ma3 (x:List Int):Bool:=okO (one r1I) (xa0 x)
noncomputable def Mb7:Sum:=S3 (X5 tI) (fun x=>.guard (Ma3 x) (.ret ((one r1I).enc (Ma2 x),[])))
theorem yc5:g9 prog G 165 Mb7:=Aa9 (bd jf1 qc7) (one r1I) (o:=xa0) fun x=>ua4 (.s .p (.s .p (.s (.s .p (.b (.u Sa1.ls))) .p))) [Sa1.pr] (by kernel_rfl) (.cons ic8 .nil) (by kernel_rfl)
noncomputable def Rc6:List (Nat×Sum):=[(164,pb2),(165,Mb7)]
theorem Gc0:i6 prog G Rc6:=⟨Mb6,yc5,trivial⟩
noncomputable def Ja9 (x:Pln):Option (b7×List b8):=let t1:=(sa3 4608 [x.n.x,x.n.y,x.n.z]);let t2:=(Ma2 [x.n.x,x.n.y,x.n.z]);let t3:=(sa3 2097152 [x.b]);(sl (sa4 4608 [x.n.x,x.n.y,x.n.z]) (sl t1 (sl (Ma3 [x.n.x,x.n.y,x.n.z]) (sl (t2==1) (sl (sa4 2097152 [x.b]) (some ((b t3),[])) none) (some ((b false),[]))) none) (some ((b false),[]))) none)
noncomputable def Za0 (x:Pln):Bool:=L4 (one r1B) (Ja9 x)
noncomputable def Za1 (x:Pln):Bool:=okO (one r1B) (Ja9 x)
noncomputable def ec4:Sum:=S3 (S4 tP) (fun x=>.guard (Za1 x) (.ret ((one r1B).enc (Za0 x),[])))
theorem Rc7:g9 prog G 85 ec4:=Aa9 (bd b85 Gc0) (one r1B) (o:=Ja9) fun x=>s6 (by kernel_rfl)
noncomputable def Gc1:List (Nat×Sum):=[(85,ec4)]
theorem yc6:i6 prog G Gc1:=⟨Rc7,trivial⟩
noncomputable def Ca6 (x:Pln):Option (b7×List b8):=let t1:=(Za0 x);(sl (Za1 x) (some ((b (!t1)),[])) none)
noncomputable def Sa2 (x:Pln):Bool:=L4 (one r1B) (Ca6 x)
noncomputable def Sa3 (x:Pln):Bool:=okO (one r1B) (Ca6 x)
noncomputable def Tb8:Sum:=S3 (S4 tP) (fun x=>.guard (Sa3 x) (.ret ((one r1B).enc (Sa2 x),[])))
theorem Gc2:g9 prog G 84 Tb8:=Aa9 (bd b84 yc6) (one r1B) (o:=Ca6) fun x=>s6 (by kernel_rfl)
structure V6 where
 c7:List Pln
noncomputable def Ca7:List (Nat×Sum):=[(84,Tb8)]
theorem jb3:i6 prog G Ca7:=⟨Gc2,trivial⟩
structure I8 where
 c7:List Pln
 is7:Int
structure o5 where
 is8:Int
noncomputable def eb9 (p:I8) (s:o5):St:=⟨((eL tP p.c7)::((.fn 84 [])::(ra 5 ((i p.is7)::((i s.is8)::(ra 10 [])))))),[]⟩
noncomputable def D4 {α:Type} (k:o5→α) (e:Nat→α) (z:α) (p:I8) (s:o5):α:=let t1:=(Sa2 (gL tP p.c7 s.is8.toNat));(sl (decide (s.is8 < p.is7)) (sl (inB s.is8 (List.length p.c7)) (sl (Sa3 (gL tP p.c7 s.is8.toNat)) (sl t1 (e 1) (k ⟨(W (s.is8+1))⟩)) z) z) (e 2))
noncomputable def G2 (p:I8) (s:o5):Stp o5:=D4 .next .exit .fail p s
noncomputable def fa5:Lo I8 o5:=⟨En Ca7,0,Ed4,[1,0,1,4,4],[0,1,7,8],.p,[⟨((.s (.c 4 (nL tP)))::((.s (.o (.fn 84)))::(ru2 5 ((.s (.o (.int .i64)))::((.s (.o (.int .i64)))::(ru2 10 [])))))),[],fun a H=>(⟨(rL tP (slT a 0)),(toI (slT a 7))⟩,⟨(toI (slT a 8))⟩)⟩],G2,[(none,fun p s=>⟨[(i s.is8)],[]⟩),(some 0,fun p s=>⟨((eL tP p.c7)::((.fn 84 [])::(ra 5 ((i p.is7)::((i s.is8)::((b (decide (s.is8 < p.is7)))::(ra 9 []))))))),[]⟩)],eb9⟩
theorem fb0:fa5.Ok:=Lo.ok [] (by kernel_rfl) .nil rfl (.cons (fun a H=>by kernel_rfl) .nil) fun p s=>(.of @D4 (fun F _ _ _ _ _=>by unfold D4;(repeat' apply k9 (f:=F))<;>rfl) (by kernel_rfl))
structure V7 where
 alt:Nat
 is0:Int
noncomputable def E1 {α:Type} (kk:V7→α) (x:V6):α:=let t1:=(lp (G2 (⟨(rt tP x.c7),(↑(List.length x.c7):Int)⟩:I8)) (⟨0⟩:o5));(sl ((cnE tP x.c7)&&true) (sl (Nat.beq t1.1 1) (kk ⟨1,t1.2.is8⟩) (sl (Nat.beq t1.1 2) (kk ⟨1,(-1)⟩) (kk ⟨0,0⟩))) (kk ⟨0,0⟩))
noncomputable def la1 (x:V6):V7:=E1 (fun r=>r) x
noncomputable def ia5 (x:V6) (r:V7):DT (b7×List b8):=(.ite (Nat.beq r.alt 1) (.ret ((i r.is0),[])) .fail)
theorem tb6 {α β:Type} (F:α→β) (kk:V7→α) (x:V6):F (E1 kk x)=E1 (fun r=>F (kk r)) x:=by unfold E1;(repeat' apply k9 (f:=F))<;>rfl
noncomputable def Ha1:Sum:=Qa9 ⟨[(.s (.c 4 (nL tP))),(.s (.o (.fn 84)))],[],fun a H=>(⟨(rL tP (slT a 0))⟩,())⟩ (fun x=>ia5 x (la1 x))
theorem pb3:g9 prog G 163 Ha1:=K4 (enc:=fun x=>⟨[(eL tP x.c7),(.fn 84 [])],[]⟩) (fun a H=>by kernel_rfl) (bd Be0 jb3) fun x=>ua4 (.s .p (.s (.s .p (.b (.u fa5.ls))) .p)) [fa5.pr] (by kernel_rfl) (.cons fb0 .nil) (Eq.trans (b:=E1 (fun r=>(ia5 x r).run) x) (by kernel_rfl) (tb6 (fun r=>(ia5 x r).run) (fun r=>r) x).symm)
structure O3 where
 c7:List Pln
noncomputable def bb5:List (Nat×Sum):=[(163,Ha1)]
theorem Xa3:i6 prog G bb5:=⟨pb3,trivial⟩
structure O4 where
 alt:Nat
 bs0:Bool
noncomputable def A8 {α:Type} (kk:O4→α) (x:O3):α:=let t1:=(la1 ⟨(rt tP x.c7)⟩);(sl ((cnE tP x.c7)&&true) (sl (Nat.beq t1.alt 1) (kk ⟨1,(decide (t1.is0≥0))⟩) (kk ⟨0,false⟩)) (kk ⟨0,false⟩))
noncomputable def da1 (x:O3):O4:=A8 (fun r=>r) x
noncomputable def aa8 (x:O3) (r:O4):DT (b7×List b8):=(.ite (Nat.beq r.alt 1) (.ret ((b r.bs0),[])) .fail)
theorem fb1 {α β:Type} (F:α→β) (kk:O4→α) (x:O3):F (A8 kk x)=A8 (fun r=>F (kk r)) x:=by unfold A8;(repeat' apply k9 (f:=F))<;>rfl
noncomputable def xa1:Sum:=Qa9 ⟨[(.s (.c 4 (nL tP))),(.s (.o (.fn 84)))],[],fun a H=>(⟨(rL tP (slT a 0))⟩,())⟩ (fun x=>aa8 x (da1 x))
theorem bb6:g9 prog G 83 xa1:=K4 (enc:=fun x=>⟨[(eL tP x.c7),(.fn 84 [])],[]⟩) (fun a H=>by kernel_rfl) (bd b83 Xa3) fun x=>s6 (Eq.trans (b:=A8 (fun r=>(aa8 x r).run) x) (by kernel_rfl) (fb1 (fun r=>(aa8 x r).run) (fun r=>r) x).symm)
noncomputable def cd6:List (Nat×Sum):=[(83,xa1)]
theorem Rc8:i6 prog G cd6:=⟨bb6,trivial⟩
noncomputable def Sa4 (x:List Pln):Option (b7×List b8):=let t1:=(da1 ⟨(rt tP x)⟩);(sl (decide ((↑(List.length x):Int) > 48)) (some ((i 2),[])) (sl ((cnE tP x)&&true) (sl (Nat.beq t1.alt 1) (sl t1.bs0 (some ((i 12),[])) (some ((i 0),[]))) none) none))
noncomputable def Sa5 (x:List Pln):Int:=L4 (one r1I) (Sa4 x)
noncomputable def Sa6 (x:List Pln):Bool:=okO (one r1I) (Sa4 x)
noncomputable def Jb0:Sum:=S3 (X5 tP) (fun x=>.guard (Sa6 x) (.ret ((one r1I).enc (Sa5 x),[])))
theorem ec5:g9 prog G 15 Jb0:=Aa9 (bd b15 Rc8) (one r1I) (o:=Sa4) fun x=>s6 (by kernel_rfl)
noncomputable def Gc3:List (Nat×Sum):=[(15,Jb0)]
theorem yc7:i6 prog G Gc3:=⟨ec5,trivial⟩
noncomputable def Ca8 (x:List Pln):Option (b7×List b8):=let t1:=(Sa5 (rt tP x));(sl (okE tP x) (sl (Sa6 (rt tP x)) (some ((b (t1 != 0)),[])) none) none)
noncomputable def Sa7 (x:List Pln):Bool:=L4 (one r1B) (Ca8 x)
noncomputable def Sa8 (x:List Pln):Bool:=okO (one r1B) (Ca8 x)
noncomputable def Tb9:Sum:=S3 (X5 tP) (fun x=>.guard (Sa8 x) (.ret ((one r1B).enc (Sa7 x),[])))
theorem Gc4:g9 prog G 168 Tb9:=Aa9 (bd jf4 yc7) (one r1B) (o:=Ca8) fun x=>s6 (by kernel_rfl)
end Go.Ev.Ce
end
namespace Go.Proofs
open Go.Shelf
set_option maxRecDepth 100000 in
def Ce.growP_ren:Go.Shelf.Ren:=⟨fun | 4=>216 | n=>n,fun | 22=>25 | 25=>50 | 3=>3 | 4=>4 | 9=>9 | 20=>20 | 0=>0 | n=>n,fun | n=>n⟩
set_option maxRecDepth 100000 in
theorem Ce.growP:Go.Proofs.Lays8.n4 Tryz.prog Ce.growP_ren:={
 mixed:=by kernel_rfl
 f4:=⟨Tryz.f216.name,by decide,Tryz.func216.trans (congrArg some (by kernel_rfl))⟩
 t0:=Tryz.underlying0
 a0:=Tryz.isAgg0
 z0:=Tryz.sizeOf0
 v0:=Tryz.zeroValue0
 t3:=Tryz.underlying3
 a3:=Tryz.isAgg3
 z3:=Tryz.sizeOf3
 v3:=Tryz.zeroValue3
 t4:=Tryz.underlying4
 a4:=Tryz.isAgg4
 z4:=Tryz.sizeOf4
 v4:=Tryz.zeroValue4
 t9:=Tryz.underlying9
 a9:=Tryz.isAgg9
 z9:=Tryz.sizeOf9
 v9:=Tryz.zeroValue9
 t20:=Tryz.underlying20
 a20:=Tryz.isAgg20
 z20:=Tryz.sizeOf20
 v20:=Tryz.zeroValue20
 t22:=Tryz.underlying25
 a22:=Tryz.isAgg25
 z22:=Tryz.sizeOf25
 v22:=Tryz.zeroValue25 }
end Go.Proofs
namespace Go.Ev.Ce
open Go Go.Ev Go.Proofs
noncomputable def td1:List b7:=[i 0,i 0,i 0,i 0]
noncomputable def Ia2:Sum:=fun args blks=>match args,blks with
 | [.v (.slice none 0 0), .v (.int .i64 n)], [] => .ite (n == 0) (.ret (.v (.slice none 0 0), []))
   (.guard (Bool.and (decide (0 < n)) (Nat.ble (n.toNat*32) room)) (.ret (.sl 0 0 0 0,[⟨50,4,List.replicate n.toNat td1,true,false,0⟩])))
 | _,_=>.fail
theorem z50:zeT Tryz.prog 50=some td1:=by kernel_rfl
theorem s50:szT Tryz.prog 50=4:=by kernel_rfl
theorem y50:byT Tryz.prog 50=32:=by kernel_rfl
theorem t25:Ce.growP_ren.t 25=50:=by kernel_rfl
theorem f4:Ce.growP_ren.f 4=216:=by kernel_rfl
set_option maxRecDepth 100000 in
theorem Ub0:g9 prog G 216 Ia2:=by
 intro args blks r out he W ρ F w args' hH hlen hargs hG
 refine⟨⟨_,Tryz.func216,by kernel_rfl,of_decide_eq_true (by kernel_rfl)⟩,?_⟩
 unfold Ia2 at he
 split at he
 case h_2=>cases he
 rename_i n
 match args',hlen with
 | [v0,v1],_ =>
 have e0:=ea3 (hargs 0 _ _ rfl rfl)
 have e1:=ea3 (hargs 1 _ _ rfl rfl)
 subst e0 e1
 rcases DT.run_ite_some he with⟨h0,he⟩ | ⟨h0,he⟩
 ·have h0:n=0:=by simpa using h0
  subst h0
  injection he with he;injection he with q1 q2;subst q1 q2
  have:=Any8.slices_Grow_room Ce.growP none 0 0 0 w (Nat.le_refl _) (by omega) (by omega) (by omega)
  rw[f4] at this
  refine this.mono fun e w' ⟨h1,h2⟩=>?_
  subst h1 h2
  exact⟨_,rfl,ρ,F,.refl,hH,.ofv _⟩
 ·obtain⟨hg,he⟩:=DT.run_guard_some he
  rw[Bool.and_eq_true,decide_eq_true_eq] at hg
  obtain⟨hpos,hroom⟩:=hg
  have hroom:=Nat.le_of_ble_eq_true hroom
  unfold room at hroom
  obtain⟨m,rfl⟩:=Int.eq_ofNat_of_zero_le (Int.le_of_lt hpos)
  have hm:0 < m:=by omega
  have he:some (b7.sl 0 0 0 0,[(⟨50,4,List.replicate m td1,true,false,0⟩:b8)])=some (r,out):=he
  injection he with he;injection he with q1 q2;subst q1 q2
  obtain⟨ti,zv,hi,hzz,hzr,hone⟩:=Wa4 (E:=En []) z50
  have hi:Tryz.prog.info? 50=some ti:=hi
  have hts:ti.size=4:=by have:=s50;simp only[szT,hi] at this;exact this
  have hby:ti.bytes=32:=by have:=y50;simp only[byT,hi] at this;exact this
  have hzs:zv.cells.size=4:=by
   have:=congrArg List.length hzr
   simpa [td1] using this.symm
  have hroom':m*32≤140737488355328:=hroom
  have:=Any8.slices_Grow_grow Ce.growP ti zv (by rw[t25];exact hi) hzz (by omega) none 0 0 m [] w (Nat.le_refl _) (by omega) (by rw[hby];omega) (by omega) (by simp) (fun _=>rfl) (fun a ha=>by cases ha)
  rw[f4,t25] at this
  refine this.mono fun e w' ⟨h1,h2⟩=>?_
  have hcap:=grownCap_ge w (0+m) 0 50
  have hcap2:=grownCap_le_maxLen w (0+m) 0 50 (by unfold maxLen;omega)
  subst h1
  generalize grownCap w (0+m) 0 50=G' at *
  have hsz:∀ q,(Builtin.zeroCells zv.cells q).size=q*4:=fun q=>by simp[Builtin.zeroCells,hzs]
  have hcc:(#[]++Builtin.zeroCells zv.cells (0+m - 0)++Builtin.zeroCells zv.cells (G' - (0+m))).size=G'*4:=by
   rw[Array.size_append,Array.size_append,hsz,hsz]
   simp
   omega
  have hobj:w'.heap[w.heap.size]?=some (.cells (#[]++Builtin.zeroCells zv.cells (0+m - 0)++Builtin.zeroCells zv.cells (G' - (0+m))) 50 (0,0)):=by
   rw[h2]
   exact World.alloc_heap_new w.drew _
  have hold:∀ k,k < w.heap.size→w'.heap[k]?=w.heap[k]?:=fun k hk=>by
   rw[h2]
   simp only[World.alloc,Array.getElem?_push,World.drew]
   rw[if_neg (by omega)]
  have hws:w'.heap.size=w.heap.size+1:=by rw[h2];exact Array.size_push ..
  obtain⟨h6,h7⟩:=hH.newAt (w':=w') (by rw[h2];rfl) (by rw[h2];rfl) (by rw[h2];rfl) (by rw[h2];exact Nat.le_succ _) (by omega) hold w.heap.size (Nat.le_refl _) 50 4 (List.replicate m td1) _ 50 hobj
   (fun j r hr=>by rw[List.getElem?_replicate] at hr;split at hr<;>cases hr;rfl) (by rw[List.length_replicate,hcc];omega)
   (fun j r c x hr hx=>by
    have hjm:j < m:=by
     have:=(List.getElem?_eq_some_iff.1 hr).1
     simpa using this
    rw[List.getElem?_replicate,if_pos hjm] at hr
    injection hr with hr
    subst hr
    have hc4:c < 4:=(List.getElem?_eq_some_iff.1 hx).1
    rw[hzr,List.getElem?_map] at hx
    have hcz:c < zv.cells.size:=by omega
    have hq:zv.cells.toList[c]?=some zv.cells[c]:=by simp[hcz]
    rw[hq] at hx
    injection hx with hx
    subst hx
    refine⟨zv.cells[c],?_,.v _ (hone _ (by simp))⟩
    have hlt:j*4+c < m*4:=by omega
    rw[Array.append_assoc,Array.empty_append,Array.getElem?_append_left (by rw[hsz];omega)]
    have hm4:(j*4+c) % 4=c:=by omega
    simp only[Builtin.zeroCells,hzs]
    rw[Array.getElem?_map,Array.getElem?_range]
    rw[if_pos (by omega)]
    simp[hm4,hcz])
   (fun _=>rfl)
  refine⟨_,rfl,_,F,h6,h7,.val (.cell ?_)⟩
  refine .sl 0 0 0 0 _ _ { et:=50,es:=4,elems:=List.replicate m td1,own:=true,dead:=false,g:=0 } rfl rfl (Nat.le_refl _) (Nat.zero_le _) rfl hcap2 fun _=>⟨.inr ?_,?_,by simp⟩
  ·simp[ρnew]
  ·simp only[ρnew,List.length_nil,if_true]
   rw[hcc,Nat.zero_add]
end Go.Ev.Ce
section
namespace Go.Ev.Ce
open Go Go.Ev Go.Ev.L Go.Proofs
set_option maxRecDepth 100000
noncomputable def va0:List (Nat×Sum):=[(216,Ia2)]
theorem Db5:i6 prog G va0:=⟨Ub0,trivial⟩
structure Q0 where
 Aa4:List (List Pln)
 Zc1:List (List Pln)
 Va5:Int
structure s7 where
 is3:Int
 Y7:Int
noncomputable def zb4 (p:Q0) (s:s7):St:=⟨((eL (tLs tP) p.Aa4)::(.unk::(.unk::((i s.is3)::(ra 5 ((eL (tLs tP) p.Zc1)::((i p.Va5)::((i s.Y7)::(ra 24 []))))))))),[]⟩
noncomputable def M7 {α:Type} (k:s7→α) (e:Nat→α) (z:α) (p:Q0) (s:s7):α:=(sl (decide (s.Y7 < p.Va5)) (sl (inB s.Y7 (List.length p.Zc1)) (sl (decide ((W (s.is3+(↑(List.length (gL (tLs tP) p.Zc1 s.Y7.toNat)):Int))) < 0)) z (k ⟨(W (s.is3+(↑(List.length (gL (tLs tP) p.Zc1 s.Y7.toNat)):Int))),(W (s.Y7+1))⟩)) z) (e 1))
noncomputable def G9 (p:Q0) (s:s7):Stp s7:=M7 .next .exit .fail p s
noncomputable def sa5:Lo Q0 s7:=⟨En va0,0,ne6,[1,1,0,1,4,4],[0,3,9,10,11],.p,[⟨((.s (.c 1 (nL (tLs tP))))::((.s (.o .unk))::((.s (.o .unk))::((.s (.o (.int .i64)))::(ru2 5 ((.s (.c 1 (nL (tLs tP))))::((.s (.o (.int .i64)))::((.s (.o (.int .i64)))::(ru2 24 []))))))))),[],fun a H=>(⟨(rL (tLs tP) (slT a 0)),(rL (tLs tP) (slT a 9)),(toI (slT a 10))⟩,⟨(toI (slT a 3)),(toI (slT a 11))⟩)⟩],G9,[(some 0,fun p s=>⟨((eL (tLs tP) p.Aa4)::(.unk::(.unk::((i s.is3)::(ra 5 ((eL (tLs tP) p.Zc1)::((i p.Va5)::((i s.Y7)::((b (decide (s.Y7 < p.Va5)))::(ra 23 [])))))))))),[]⟩)],zb4⟩
theorem zb5:sa5.OkM:=Lo.okM [] (by kernel_rfl) .nil rfl (.cons (fun a H=>by kernel_rfl) .nil) fun p s=>(.of @M7 (fun F _ _ _ _ _=>by unfold M7;(repeat' apply k9 (f:=F))<;>rfl) (by kernel_rfl))
structure s8 where
 ra0:List (List Pln)
 Ld9:Int
structure l0 where
 ph:Nat
 vb3:Int
 ns6:Nat
 eh0:List (List b7)
noncomputable def tb7 (p:s8) (s:l0):St:=⟨(ra 6 ((.v (.slice none 0 0))::(ra 18 ((eL (tLs tP) p.ra0)::((i p.Ld9)::((i s.vb3)::(ra 8 []))))))),[]⟩
noncomputable def tb8 (p:s8) (s:l0):St:=⟨(ra 6 ((.sl 0 0 s.ns6 0)::(ra 18 ((eL (tLs tP) p.ra0)::((i p.Ld9)::((i s.vb3)::(ra 8 []))))))),[⟨50,4,s.eh0,true,false,0⟩]⟩
noncomputable def zb6 (p:s8) (s:l0):St:=(sel (Nat.beq s.ph 1) (tb8 p s) (tb7 p s))
noncomputable def A4 {α:Type} (k:l0→α) (e:Nat→α) (z:α) (p:s8) (s:l0):α:=(sl (decide (s.vb3 < p.Ld9)) (sl (inB s.vb3 (List.length p.ra0)) (sl (Nat.beq (len (o0 (fun k=>(tP).row (gL tP (gL (tLs tP) p.ra0 s.vb3.toNat) k)) (List.range (List.length (gL (tLs tP) p.ra0 s.vb3.toNat))))) 0) (k ⟨0,(W (s.vb3+1)),0,[]⟩) z) z) (e 1))
noncomputable def A5 {α:Type} (k:l0→α) (e:Nat→α) (z:α) (p:s8) (s:l0):α:=(sl (decide (s.vb3 < p.Ld9)) (sl (inB s.vb3 (List.length p.ra0)) (sl (Nat.ble (s.ns6+(len (o0 (fun k=>(tP).row (gL tP (gL (tLs tP) p.ra0 s.vb3.toNat) k)) (List.range (List.length (gL (tLs tP) p.ra0 s.vb3.toNat)))))) (len s.eh0)) (k ⟨1,(W (s.vb3+1)),(s.ns6+(len (o0 (fun k=>(tP).row (gL tP (gL (tLs tP) p.ra0 s.vb3.toNat) k)) (List.range (List.length (gL (tLs tP) p.ra0 s.vb3.toNat)))))),(app (F7 s.eh0 s.ns6) (app (o0 (fun k=>(tP).row (gL tP (gL (tLs tP) p.ra0 s.vb3.toNat) k)) (List.range (List.length (gL (tLs tP) p.ra0 s.vb3.toNat)))) (e7 s.eh0 (s.ns6+(len (o0 (fun k=>(tP).row (gL tP (gL (tLs tP) p.ra0 s.vb3.toNat) k)) (List.range (List.length (gL (tLs tP) p.ra0 s.vb3.toNat)))))))))⟩) z) z) (e 2))
noncomputable def B7 (p:s8) (s:l0):Stp l0:=(sel (Nat.beq s.ph 1) (A5 .next .exit .fail p s) (A4 .next .exit .fail p s))
noncomputable def sa6:Lo s8 l0:=⟨En va0,0,ne6,[1,1,1,1,0,1,4,4],[6,25,26,27],.p,[⟨(ru2 6 ((.s (.o .nil))::(ru2 18 ((.s (.c 1 (nL (tLs tP))))::((.s (.o (.int .i64)))::((.s (.o (.int .i64)))::(ru2 8 []))))))),[],fun a H=>(⟨(rL (tLs tP) (slT a 25)),(toI (slT a 26))⟩,⟨0,(toI (slT a 27)),0,[]⟩)⟩,⟨(ru2 6 ((.s (.o (.sl 0 0 (some 0) none)))::(ru2 18 ((.s (.c 1 (nL (tLs tP))))::((.s (.o (.int .i64)))::((.s (.o (.int .i64)))::(ru2 8 []))))))),[⟨50,4,true,none⟩],fun a H=>(⟨(rL (tLs tP) (slT a 25)),(toI (slT a 26))⟩,⟨1,(toI (slT a 27)),(slN (slT a 6)),(elT H 0)⟩)⟩],B7,[(some 2,fun p s=>⟨(ra 6 ((.v (.slice none 0 0))::(ra 18 ((eL (tLs tP) p.ra0)::((i p.Ld9)::((i s.vb3)::((b (decide (s.vb3 < p.Ld9)))::(ra 7 [])))))))),[]⟩),(some 2,fun p s=>⟨(ra 6 ((.sl 0 0 s.ns6 0)::(ra 18 ((eL (tLs tP) p.ra0)::((i p.Ld9)::((i s.vb3)::((b (decide (s.vb3 < p.Ld9)))::(ra 7 [])))))))),[⟨50,4,s.eh0,true,false,0⟩]⟩)],zb6⟩
theorem zb7:sa6.OkM:=Lo.okM [] (by kernel_rfl) .nil rfl (.cons (fun a H=>by kernel_rfl) (.cons (fun a H=>by kernel_rfl) .nil)) fun p s=>(.sel (Nat.beq s.ph 1) (.of @A5 (fun F _ _ _ _ _=>by unfold A5;(repeat' apply k9 (f:=F))<;>rfl) (by kernel_rfl)) (.of @A4 (fun F _ _ _ _ _=>by unfold A4;(repeat' apply k9 (f:=F))<;>rfl) (by kernel_rfl)))
structure ka6 where
 alt:Nat
 ns0:Nat
 eh0:List (List b7)
noncomputable def N2 {α:Type} (kk:ka6→α) (x:List (List Pln)):α:=let t1:=(lp (G9 (⟨(rt (tLs tP) x),(rt (tLs tP) x),(↑(List.length x):Int)⟩:Q0)) (⟨0,0⟩:s7));let t2:=(lp (B7 (⟨(rt (tLs tP) (rt (tLs tP) x)),(↑(List.length (rt (tLs tP) x)):Int)⟩:s8)) (⟨0,0,0,[]⟩:l0));let t3:=(lp (B7 (⟨(rt (tLs tP) (rt (tLs tP) x)),(↑(List.length (rt (tLs tP) x)):Int)⟩:s8)) (⟨1,0,0,(List.replicate t1.2.is3.toNat td1)⟩:l0));(sl ((cnE (tLs tP) x)&&((cnE (tLs tP) x)&&true)) (sl (Nat.beq t1.1 1) (sl (t1.2.is3==0) (sl ((cnE (tLs tP) (rt (tLs tP) x))&&true) (sl (Nat.beq t2.1 1) (kk ⟨1,0,[]⟩) (sl (Nat.beq t2.1 2) (kk ⟨2,t2.2.ns6,t2.2.eh0⟩) (kk ⟨0,0,[]⟩))) (kk ⟨0,0,[]⟩)) (sl (Bool.and (decide (0 < t1.2.is3)) (Nat.ble (t1.2.is3.toNat*32) room)) (sl ((cnE (tLs tP) (rt (tLs tP) x))&&true) (sl (Nat.beq t3.1 1) (kk ⟨1,0,[]⟩) (sl (Nat.beq t3.1 2) (kk ⟨2,t3.2.ns6,t3.2.eh0⟩) (kk ⟨0,0,[]⟩))) (kk ⟨0,0,[]⟩)) (kk ⟨0,0,[]⟩))) (kk ⟨0,0,[]⟩)) (kk ⟨0,0,[]⟩))
noncomputable def ka7 (x:List (List Pln)):ka6:=N2 (fun r=>r) x
noncomputable def va1 (r:ka6):DT (b7×List b8):=(.ite (Nat.beq r.alt 1) (.ret ((.v (.slice none 0 0)),[])) (.ite (Nat.beq r.alt 2) (.ret ((.sl 0 0 r.ns0 0),[⟨50,4,r.eh0,true,false,0⟩])) .fail))
theorem Nb3 {α β:Type} (F:α→β) (kk:ka6→α) (x:List (List Pln)):F (N2 kk x)=N2 (fun r=>F (kk r)) x:=by unfold N2;(repeat' apply k9 (f:=F))<;>rfl
noncomputable def Va8:Sum:=S3 (X5 (tLs tP)) (fun x=>va1 (ka7 x))
theorem Jb1:g9 prog G 169 Va8:=Gb8 (bd jf5 Db5) fun x=>Je9 (.s .p (.s .p (.s (.s .p (.b (.u sa5.lsM))) (.s .p (.s (.s .p (.b (.u sa6.lsM))) .p))))) [sa5.prM,sa6.prM] (by kernel_rfl) (.cons zb5 (.cons zb7 .nil)) (Eq.trans (b:=N2 (fun r=>(va1 r).run) x) (by kernel_rfl) (Nb3 (fun r=>(va1 r).run) (fun r=>r) x).symm)
noncomputable def Rd5:List (Nat×Sum):=[(169,Va8)]
theorem Fd8:i6 prog G Rd5:=⟨Jb1,trivial⟩
noncomputable def Db6 (x:List (List Pln)):Option (b7×List b8):=let t1:=(ka7 (rt (tLs tP) x));(sl (okE (tLs tP) x) (sl (Nat.beq t1.alt 1) (some ((.sl 0 0 6 0),[⟨50,4,[[(i 1),(i 0),(i 0),(i 24)],[(i (-1)),(i 0),(i 0),(i 24)],[(i 0),(i 1),(i 0),(i 24)],[(i 0),(i (-1)),(i 0),(i 24)],[(i 0),(i 0),(i 1),(i 24)],[(i 0),(i 0),(i (-1)),(i 24)]],true,false,0⟩])) (sl (Nat.beq t1.alt 2) (sl (Nat.beq t1.ns0 (len t1.eh0)&&Nat.ble ((t1.ns0+1)*32) room) (sl (Nat.beq (t1.ns0+1) (len (app t1.eh0 [[(i 1),(i 0),(i 0),(i 24)]]))&&Nat.ble (((t1.ns0+1)+1)*32) room) (sl (Nat.beq ((t1.ns0+1)+1) (len (app (app t1.eh0 [[(i 1),(i 0),(i 0),(i 24)]]) [[(i (-1)),(i 0),(i 0),(i 24)]]))&&Nat.ble ((((t1.ns0+1)+1)+1)*32) room) (sl (Nat.beq (((t1.ns0+1)+1)+1) (len (app (app (app t1.eh0 [[(i 1),(i 0),(i 0),(i 24)]]) [[(i (-1)),(i 0),(i 0),(i 24)]]) [[(i 0),(i 1),(i 0),(i 24)]]))&&Nat.ble (((((t1.ns0+1)+1)+1)+1)*32) room) (sl (Nat.beq ((((t1.ns0+1)+1)+1)+1) (len (app (app (app (app t1.eh0 [[(i 1),(i 0),(i 0),(i 24)]]) [[(i (-1)),(i 0),(i 0),(i 24)]]) [[(i 0),(i 1),(i 0),(i 24)]]) [[(i 0),(i (-1)),(i 0),(i 24)]]))&&Nat.ble ((((((t1.ns0+1)+1)+1)+1)+1)*32) room) (sl (Nat.beq (((((t1.ns0+1)+1)+1)+1)+1) (len (app (app (app (app (app t1.eh0 [[(i 1),(i 0),(i 0),(i 24)]]) [[(i (-1)),(i 0),(i 0),(i 24)]]) [[(i 0),(i 1),(i 0),(i 24)]]) [[(i 0),(i (-1)),(i 0),(i 24)]]) [[(i 0),(i 0),(i 1),(i 24)]]))&&Nat.ble (((((((t1.ns0+1)+1)+1)+1)+1)+1)*32) room) (some ((.sl 0 0 ((((((t1.ns0+1)+1)+1)+1)+1)+1) 0),[⟨50,4,(app (app (app (app (app (app t1.eh0 [[(i 1),(i 0),(i 0),(i 24)]]) [[(i (-1)),(i 0),(i 0),(i 24)]]) [[(i 0),(i 1),(i 0),(i 24)]]) [[(i 0),(i (-1)),(i 0),(i 24)]]) [[(i 0),(i 0),(i 1),(i 24)]]) [[(i 0),(i 0),(i (-1)),(i 24)]]),true,false,0⟩])) none) none) none) none) none) none) none)) none)
noncomputable def Xa4 (x:List (List Pln)):List Pln:=L4 (one (r1L tP)) (Db6 x)
noncomputable def Xa5 (x:List (List Pln)):Bool:=okO (one (r1L tP)) (Db6 x)
noncomputable def Zb6:Sum:=S3 (X5 (tLs tP)) (fun x=>.guard (Xa5 x) (.ret ((one (r1L tP)).enc (Xa4 x),[])))
theorem ic9:g9 prog G 88 Zb6:=Aa9 (bd b88 Fd8) (one (r1L tP)) (o:=Db6) fun x=>s6 (by kernel_rfl)
structure V8 where
 Aa4:List (List Pln)
noncomputable def Ca9:List (Nat×Sum):=[(168,Tb9)]
theorem jb4:i6 prog G Ca9:=⟨Gc4,trivial⟩
structure I9 where
 Aa4:List (List Pln)
 is7:Int
structure o6 where
 is8:Int
noncomputable def fb2 (p:I9) (s:o6):St:=⟨((eL (tLs tP) p.Aa4)::((.fn 168 [])::(ra 5 ((i p.is7)::((i s.is8)::(ra 10 [])))))),[]⟩
noncomputable def D5 {α:Type} (k:o6→α) (e:Nat→α) (z:α) (p:I9) (s:o6):α:=let t1:=(Sa7 (rt tP (gL (tLs tP) p.Aa4 s.is8.toNat)));(sl (decide (s.is8 < p.is7)) (sl (inB s.is8 (List.length p.Aa4)) (sl (okE tP (gL (tLs tP) p.Aa4 s.is8.toNat)) (sl (Sa8 (rt tP (gL (tLs tP) p.Aa4 s.is8.toNat))) (sl t1 (e 1) (k ⟨(W (s.is8+1))⟩)) z) z) z) (e 2))
noncomputable def G3 (p:I9) (s:o6):Stp o6:=D5 .next .exit .fail p s
noncomputable def fa6:Lo I9 o6:=⟨En Ca9,0,Je2,[1,0,1,4,4],[0,1,7,8],.p,[⟨((.s (.c 1 (nL (tLs tP))))::((.s (.o (.fn 168)))::(ru2 5 ((.s (.o (.int .i64)))::((.s (.o (.int .i64)))::(ru2 10 [])))))),[],fun a H=>(⟨(rL (tLs tP) (slT a 0)),(toI (slT a 7))⟩,⟨(toI (slT a 8))⟩)⟩],G3,[(none,fun p s=>⟨[(i s.is8)],[]⟩),(some 0,fun p s=>⟨((eL (tLs tP) p.Aa4)::((.fn 168 [])::(ra 5 ((i p.is7)::((i s.is8)::((b (decide (s.is8 < p.is7)))::(ra 9 []))))))),[]⟩)],fb2⟩
theorem fb3:fa6.Ok:=Lo.ok [] (by kernel_rfl) .nil rfl (.cons (fun a H=>by kernel_rfl) .nil) fun p s=>(.of @D5 (fun F _ _ _ _ _=>by unfold D5;(repeat' apply k9 (f:=F))<;>rfl) (by kernel_rfl))
structure V9 where
 alt:Nat
 is0:Int
noncomputable def E2 {α:Type} (kk:V9→α) (x:V8):α:=let t1:=(lp (G3 (⟨(rt (tLs tP) x.Aa4),(↑(List.length x.Aa4):Int)⟩:I9)) (⟨0⟩:o6));(sl ((cnE (tLs tP) x.Aa4)&&true) (sl (Nat.beq t1.1 1) (kk ⟨1,t1.2.is8⟩) (sl (Nat.beq t1.1 2) (kk ⟨1,(-1)⟩) (kk ⟨0,0⟩))) (kk ⟨0,0⟩))
noncomputable def la2 (x:V8):V9:=E2 (fun r=>r) x
noncomputable def ia6 (x:V8) (r:V9):DT (b7×List b8):=(.ite (Nat.beq r.alt 1) (.ret ((i r.is0),[])) .fail)
theorem tb9 {α β:Type} (F:α→β) (kk:V9→α) (x:V8):F (E2 kk x)=E2 (fun r=>F (kk r)) x:=by unfold E2;(repeat' apply k9 (f:=F))<;>rfl
noncomputable def Ha2:Sum:=Qa9 ⟨[(.s (.c 1 (nL (tLs tP)))),(.s (.o (.fn 168)))],[],fun a H=>(⟨(rL (tLs tP) (slT a 0))⟩,())⟩ (fun x=>ia6 x (la2 x))
theorem pb4:g9 prog G 207 Ha2:=K4 (enc:=fun x=>⟨[(eL (tLs tP) x.Aa4),(.fn 168 [])],[]⟩) (fun a H=>by kernel_rfl) (bd lf4 jb4) fun x=>ua4 (.s .p (.s (.s .p (.b (.u fa6.ls))) .p)) [fa6.pr] (by kernel_rfl) (.cons fb3 .nil) (Eq.trans (b:=E2 (fun r=>(ia6 x r).run) x) (by kernel_rfl) (tb9 (fun r=>(ia6 x r).run) (fun r=>r) x).symm)
structure O5 where
 Aa4:List (List Pln)
noncomputable def bb7:List (Nat×Sum):=[(207,Ha2)]
theorem Xa6:i6 prog G bb7:=⟨pb4,trivial⟩
structure O6 where
 alt:Nat
 bs0:Bool
noncomputable def A9 {α:Type} (kk:O6→α) (x:O5):α:=let t1:=(la2 ⟨(rt (tLs tP) x.Aa4)⟩);(sl ((cnE (tLs tP) x.Aa4)&&true) (sl (Nat.beq t1.alt 1) (kk ⟨1,(decide (t1.is0≥0))⟩) (kk ⟨0,false⟩)) (kk ⟨0,false⟩))
noncomputable def da2 (x:O5):O6:=A9 (fun r=>r) x
noncomputable def aa9 (x:O5) (r:O6):DT (b7×List b8):=(.ite (Nat.beq r.alt 1) (.ret ((b r.bs0),[])) .fail)
theorem fb4 {α β:Type} (F:α→β) (kk:O6→α) (x:O5):F (A9 kk x)=A9 (fun r=>F (kk r)) x:=by unfold A9;(repeat' apply k9 (f:=F))<;>rfl
noncomputable def xa2:Sum:=Qa9 ⟨[(.s (.c 1 (nL (tLs tP)))),(.s (.o (.fn 168)))],[],fun a H=>(⟨(rL (tLs tP) (slT a 0))⟩,())⟩ (fun x=>aa9 x (da2 x))
theorem bb8:g9 prog G 157 xa2:=K4 (enc:=fun x=>⟨[(eL (tLs tP) x.Aa4),(.fn 168 [])],[]⟩) (fun a H=>by kernel_rfl) (bd if9 Xa6) fun x=>s6 (Eq.trans (b:=A9 (fun r=>(aa9 x r).run) x) (by kernel_rfl) (fb4 (fun r=>(aa9 x r).run) (fun r=>r) x).symm)
noncomputable def cd7:List (Nat×Sum):=[(157,xa2)]
theorem Rc9:i6 prog G cd7:=⟨bb8,trivial⟩
noncomputable def Sa9 (x:List (List Pln)):Option (b7×List b8):=let t1:=(da2 ⟨(rt (tLs tP) x)⟩);(sl ((cnE (tLs tP) x)&&true) (sl (Nat.beq t1.alt 1) (some ((b (!t1.bs0)),[])) none) none)
noncomputable def fa7 (x:List (List Pln)):Bool:=L4 (one r1B) (Sa9 x)
noncomputable def fa8 (x:List (List Pln)):Bool:=okO (one r1B) (Sa9 x)
noncomputable def Ga4:Sum:=S3 (X5 (tLs tP)) (fun x=>.guard (fa8 x) (.ret ((one r1B).enc (fa7 x),[])))
theorem Ka0:g9 prog G 87 Ga4:=Aa9 (bd b87 Rc9) (one r1B) (o:=Sa9) fun x=>s6 (by kernel_rfl)
structure fa9 where
 oa6:Int
 oa7:Int
 oa8:Int
 sb6:Int
 f9:Int
 b9:Int
 g7:Int
 d9:Int
noncomputable def Db7:List (Nat×Sum):=[(102,wb7)]
theorem zb8:i6 prog G Db7:=⟨Ib4,trivial⟩
structure T6 where
 bs0:Bool
noncomputable def T7 {α:Type} (kk:T6→α) (x:fa9):α:=let t1:=(ua6 (⟨(⟨x.f9,x.b9,x.g7⟩:V3),x.d9⟩:Pln) (⟨x.oa6,x.oa7,x.oa8,x.sb6⟩:Pt));(kk ⟨(decide (t1 > 0))⟩)
noncomputable def va2 (x:fa9):T6:=T7 (fun r=>r) x
noncomputable def sa7 (x:fa9) (r:T6):DT (b7×List b8):=.ret ((b r.bs0),[⟨0,4,[[(i x.f9),(i x.b9),(i x.g7),(i x.d9)]],true,false,0⟩])
theorem Jb2 {α β:Type} (F:α→β) (kk:T6→α) (x:fa9):F (T7 kk x)=T7 (fun r=>F (kk r)) x:=by unfold T7;(repeat' apply k9 (f:=F))<;>rfl
noncomputable def Ta0:Sum:=Qa9 ⟨[(.agg [(.o (.int .i64)),(.o (.int .i64)),(.o (.int .i64)),(.o (.int .i64))]),(.s (.o (.ptr 0 0 0 0)))],[⟨0,4,true,(some [[(.o (.int .i64)),(.o (.int .i64)),(.o (.int .i64)),(.o (.int .i64))]])⟩],fun a H=>(⟨(toI (slT (cellsOf (slT a 0)) 0)),(toI (slT (cellsOf (slT a 0)) 1)),(toI (slT (cellsOf (slT a 0)) 2)),(toI (slT (cellsOf (slT a 0)) 3)),(toI (slT (rwT (elT H 0) 0) 0)),(toI (slT (rwT (elT H 0) 0) 1)),(toI (slT (rwT (elT H 0) 0) 2)),(toI (slT (rwT (elT H 0) 0) 3))⟩,())⟩ (fun x=>sa7 x (va2 x))
theorem Db8:g9 prog G 176 Ta0:=K4 (enc:=fun x=>⟨[(.agg [(i x.oa6),(i x.oa7),(i x.oa8),(i x.sb6)]),(.ptr 0 0 0 0)],[⟨0,4,[[(i x.f9),(i x.b9),(i x.g7),(i x.d9)]],true,false,0⟩]⟩) (fun a H=>by kernel_rfl) (bd kf2 zb8) fun x=>s6 (Eq.trans (b:=T7 (fun r=>(sa7 x r).run) x) (by kernel_rfl) (Jb2 (fun r=>(sa7 x r).run) (fun r=>r) x).symm)
structure Z5 where
 C5:List Pt
 f9:Int
 b9:Int
 g7:Int
 d9:Int
noncomputable def Ha3:List (Nat×Sum):=[(176,Ta0)]
theorem pb5:i6 prog G Ha3:=⟨Db8,trivial⟩
structure K9 where
 C5:List Pt
 is7:Int
 f9:Int
 b9:Int
 g7:Int
 d9:Int
structure p7 where
 is8:Int
noncomputable def jb5 (p:K9) (s:p7):St:=⟨((eL tX p.C5)::((.fn 176 [(.ptr 0 0 0 0)])::(ra 5 ((i p.is7)::((i s.is8)::(ra 10 [])))))),[⟨0,4,[[(i p.f9),(i p.b9),(i p.g7),(i p.d9)]],true,false,0⟩]⟩
noncomputable def G4 {α:Type} (k:p7→α) (e:Nat→α) (z:α) (p:K9) (s:p7):α:=let t1:=(va2 ⟨(gL tX p.C5 s.is8.toNat).px,(gL tX p.C5 s.is8.toNat).py,(gL tX p.C5 s.is8.toNat).pz,(gL tX p.C5 s.is8.toNat).pw,p.f9,p.b9,p.g7,p.d9⟩);(sl (decide (s.is8 < p.is7)) (sl (inB s.is8 (List.length p.C5)) (sl t1.bs0 (e 1) (k ⟨(W (s.is8+1))⟩)) z) (e 2))
noncomputable def J0 (p:K9) (s:p7):Stp p7:=G4 .next .exit .fail p s
noncomputable def ia7:Lo K9 p7:=⟨En Ha3,1,ne7,[1,0,1,4,4],[0,1,7,8],.p,[⟨((.s (.c 4 (nL tX)))::((.fn 176 [(.o (.ptr 0 0 0 0))])::(ru2 5 ((.s (.o (.int .i64)))::((.s (.o (.int .i64)))::(ru2 10 [])))))),[⟨0,4,true,(some [[(.o (.int .i64)),(.o (.int .i64)),(.o (.int .i64)),(.o (.int .i64))]])⟩],fun a H=>(⟨(rL tX (slT a 0)),(toI (slT a 7)),(toI (slT (rwT (elT H 0) 0) 0)),(toI (slT (rwT (elT H 0) 0) 1)),(toI (slT (rwT (elT H 0) 0) 2)),(toI (slT (rwT (elT H 0) 0) 3))⟩,⟨(toI (slT a 8))⟩)⟩],J0,[(none,fun p s=>⟨[(i s.is8)],[⟨0,4,[[(i p.f9),(i p.b9),(i p.g7),(i p.d9)]],true,false,0⟩]⟩),(some 0,fun p s=>⟨((eL tX p.C5)::((.fn 176 [(.ptr 0 0 0 0)])::(ra 5 ((i p.is7)::((i s.is8)::((b (decide (s.is8 < p.is7)))::(ra 9 []))))))),[⟨0,4,[[(i p.f9),(i p.b9),(i p.g7),(i p.d9)]],true,false,0⟩]⟩)],jb5⟩
theorem jb6:ia7.Ok:=Lo.ok [] (by kernel_rfl) .nil rfl (.cons (fun a H=>by kernel_rfl) .nil) fun p s=>(.of @G4 (fun F _ _ _ _ _=>by unfold G4;(repeat' apply k9 (f:=F))<;>rfl) (by kernel_rfl))
structure Z6 where
 alt:Nat
 is0:Int
noncomputable def H4 {α:Type} (kk:Z6→α) (x:Z5):α:=let t1:=(lp (J0 (⟨(rt tX x.C5),(↑(List.length x.C5):Int),x.f9,x.b9,x.g7,x.d9⟩:K9)) (⟨0⟩:p7));(sl ((cnE tX x.C5)&&true) (sl (Nat.beq t1.1 1) (kk ⟨1,t1.2.is8⟩) (sl (Nat.beq t1.1 2) (kk ⟨1,(-1)⟩) (kk ⟨0,0⟩))) (kk ⟨0,0⟩))
noncomputable def pa4 (x:Z5):Z6:=H4 (fun r=>r) x
noncomputable def la3 (x:Z5) (r:Z6):DT (b7×List b8):=(.ite (Nat.beq r.alt 1) (.ret ((i r.is0),[⟨0,4,[[(i x.f9),(i x.b9),(i x.g7),(i x.d9)]],true,false,0⟩])) .fail)
theorem zb9 {α β:Type} (F:α→β) (kk:Z6→α) (x:Z5):F (H4 kk x)=H4 (fun r=>F (kk r)) x:=by unfold H4;(repeat' apply k9 (f:=F))<;>rfl
noncomputable def Ka1:Sum:=Qa9 ⟨[(.s (.c 4 (nL tX))),(.fn 176 [(.o (.ptr 0 0 0 0))])],[⟨0,4,true,(some [[(.o (.int .i64)),(.o (.int .i64)),(.o (.int .i64)),(.o (.int .i64))]])⟩],fun a H=>(⟨(rL tX (slT a 0)),(toI (slT (rwT (elT H 0) 0) 0)),(toI (slT (rwT (elT H 0) 0) 1)),(toI (slT (rwT (elT H 0) 0) 2)),(toI (slT (rwT (elT H 0) 0) 3))⟩,())⟩ (fun x=>la3 x (pa4 x))
theorem ub0:g9 prog G 185 Ka1:=K4 (enc:=fun x=>⟨[(eL tX x.C5),(.fn 176 [(.ptr 0 0 0 0)])],[⟨0,4,[[(i x.f9),(i x.b9),(i x.g7),(i x.d9)]],true,false,0⟩]⟩) (fun a H=>by kernel_rfl) (bd af0 pb5) fun x=>ua4 (.s .p (.s (.s .p (.b (.u ia7.ls))) .p)) [ia7.pr] (by kernel_rfl) (.cons jb6 .nil) (Eq.trans (b:=H4 (fun r=>(la3 x r).run) x) (by kernel_rfl) (zb9 (fun r=>(la3 x r).run) (fun r=>r) x).symm)
structure Q8 where
 C5:List Pt
 f9:Int
 b9:Int
 g7:Int
 d9:Int
noncomputable def fb5:List (Nat×Sum):=[(185,Ka1)]
theorem bb9:i6 prog G fb5:=⟨ub0,trivial⟩
structure Q9 where
 alt:Nat
 bs0:Bool
noncomputable def B9 {α:Type} (kk:Q9→α) (x:Q8):α:=let t1:=(pa4 ⟨(rt tX x.C5),x.f9,x.b9,x.g7,x.d9⟩);(sl ((cnE tX x.C5)&&true) (sl (Nat.beq t1.alt 1) (kk ⟨1,(decide (t1.is0≥0))⟩) (kk ⟨0,false⟩)) (kk ⟨0,false⟩))
noncomputable def ga0 (x:Q8):Q9:=B9 (fun r=>r) x
noncomputable def da3 (x:Q8) (r:Q9):DT (b7×List b8):=(.ite (Nat.beq r.alt 1) (.ret ((b r.bs0),[⟨0,4,[[(i x.f9),(i x.b9),(i x.g7),(i x.d9)]],true,false,0⟩])) .fail)
theorem jb7 {α β:Type} (F:α→β) (kk:Q9→α) (x:Q8):F (B9 kk x)=B9 (fun r=>F (kk r)) x:=by unfold B9;(repeat' apply k9 (f:=F))<;>rfl
noncomputable def Aa6:Sum:=Qa9 ⟨[(.s (.c 4 (nL tX))),(.fn 176 [(.o (.ptr 0 0 0 0))])],[⟨0,4,true,(some [[(.o (.int .i64)),(.o (.int .i64)),(.o (.int .i64)),(.o (.int .i64))]])⟩],fun a H=>(⟨(rL tX (slT a 0)),(toI (slT (rwT (elT H 0) 0) 0)),(toI (slT (rwT (elT H 0) 0) 1)),(toI (slT (rwT (elT H 0) 0) 2)),(toI (slT (rwT (elT H 0) 0) 3))⟩,())⟩ (fun x=>da3 x (ga0 x))
theorem fb6:g9 prog G 113 Aa6:=K4 (enc:=fun x=>⟨[(eL tX x.C5),(.fn 176 [(.ptr 0 0 0 0)])],[⟨0,4,[[(i x.f9),(i x.b9),(i x.g7),(i x.d9)]],true,false,0⟩]⟩) (fun a H=>by kernel_rfl) (bd Ze9 bb9) fun x=>s6 (Eq.trans (b:=B9 (fun r=>(da3 x r).run) x) (by kernel_rfl) (jb7 (fun r=>(da3 x r).run) (fun r=>r) x).symm)
structure na2 where
 oa6:Int
 oa7:Int
 oa8:Int
 sb6:Int
 g8:List Pt
noncomputable def Nb4:List (Nat×Sum):=[(113,Aa6)]
theorem Jb3:i6 prog G Nb4:=⟨fb6,trivial⟩
structure ba0 where
 alt:Nat
 bs0:Bool
noncomputable def Q1 {α:Type} (kk:ba0→α) (x:na2):α:=let t1:=(ga0 ⟨(rt tX x.g8),x.oa6,x.oa7,x.oa8,x.sb6⟩);(sl ((cnE tX x.g8)&&true) (sl (Nat.beq t1.alt 1) (kk ⟨1,(!t1.bs0)⟩) (kk ⟨0,false⟩)) (kk ⟨0,false⟩))
noncomputable def na3 (x:na2):ba0:=Q1 (fun r=>r) x
noncomputable def Aa2 (x:na2) (r:ba0):DT (b7×List b8):=(.ite (Nat.beq r.alt 1) (.ret ((b r.bs0),[⟨0,1,[[(eL tX x.g8)]],true,false,0⟩])) .fail)
theorem Ub1 {α β:Type} (F:α→β) (kk:ba0→α) (x:na2):F (Q1 kk x)=Q1 (fun r=>F (kk r)) x:=by unfold Q1;(repeat' apply k9 (f:=F))<;>rfl
noncomputable def cb0:Sum:=Qa9 ⟨[(.agg [(.o (.int .i64)),(.o (.int .i64)),(.o (.int .i64)),(.o (.int .i64))]),(.s (.o (.ptr 0 0 0 0)))],[⟨0,1,true,(some [[(.c 4 (nL tX))]])⟩],fun a H=>(⟨(toI (slT (cellsOf (slT a 0)) 0)),(toI (slT (cellsOf (slT a 0)) 1)),(toI (slT (cellsOf (slT a 0)) 2)),(toI (slT (cellsOf (slT a 0)) 3)),(rL tX (slT (rwT (elT H 0) 0) 0))⟩,())⟩ (fun x=>Aa2 x (na3 x))
theorem Nb5:g9 prog G 175 cb0:=K4 (enc:=fun x=>⟨[(.agg [(i x.oa6),(i x.oa7),(i x.oa8),(i x.sb6)]),(.ptr 0 0 0 0)],[⟨0,1,[[(eL tX x.g8)]],true,false,0⟩]⟩) (fun a H=>by kernel_rfl) (bd kf1 Jb3) fun x=>s6 (Eq.trans (b:=Q1 (fun r=>(Aa2 x r).run) x) (by kernel_rfl) (Ub1 (fun r=>(Aa2 x r).run) (fun r=>r) x).symm)
structure W0 where
 c7:List Pln
 g8:List Pt
noncomputable def Da0:List (Nat×Sum):=[(175,cb0)]
theorem jb8:i6 prog G Da0:=⟨Nb5,trivial⟩
structure J1 where
 c7:List Pln
 is7:Int
structure o7 where
 is8:Int
 g8:List Pt
noncomputable def fb7 (p:J1) (s:o7):St:=⟨((eL tP p.c7)::((.fn 175 [(.ptr 0 0 0 0)])::(ra 5 ((i p.is7)::((i s.is8)::(ra 10 [])))))),[⟨0,1,[[(eL tX s.g8)]],true,false,0⟩]⟩
noncomputable def D6 {α:Type} (k:o7→α) (e:Nat→α) (z:α) (p:J1) (s:o7):α:=let t1:=(na3 ⟨(gL tP p.c7 s.is8.toNat).n.x,(gL tP p.c7 s.is8.toNat).n.y,(gL tP p.c7 s.is8.toNat).n.z,(gL tP p.c7 s.is8.toNat).b,(rt tX s.g8)⟩);(sl (decide (s.is8 < p.is7)) (sl (inB s.is8 (List.length p.c7)) (sl ((cnE tX s.g8)&&true) (sl (Nat.beq t1.alt 1) (sl t1.bs0 (e 1) (k ⟨(W (s.is8+1)),(rt tX s.g8)⟩)) z) z) z) (e 2))
noncomputable def G5 (p:J1) (s:o7):Stp o7:=D6 .next .exit .fail p s
noncomputable def ga1:Lo J1 o7:=⟨En Da0,1,Je5,[1,0,1,4,4],[0,1,7,8],.p,[⟨((.s (.c 4 (nL tP)))::((.fn 175 [(.o (.ptr 0 0 0 0))])::(ru2 5 ((.s (.o (.int .i64)))::((.s (.o (.int .i64)))::(ru2 10 [])))))),[⟨0,1,true,(some [[(.c 4 (nL tX))]])⟩],fun a H=>(⟨(rL tP (slT a 0)),(toI (slT a 7))⟩,⟨(toI (slT a 8)),(rL tX (slT (rwT (elT H 0) 0) 0))⟩)⟩],G5,[(none,fun p s=>⟨[(i s.is8)],[⟨0,1,[[(eL tX (rt tX s.g8))]],true,false,0⟩]⟩),(some 0,fun p s=>⟨((eL tP p.c7)::((.fn 175 [(.ptr 0 0 0 0)])::(ra 5 ((i p.is7)::((i s.is8)::((b (decide (s.is8 < p.is7)))::(ra 9 []))))))),[⟨0,1,[[(eL tX s.g8)]],true,false,0⟩]⟩)],fb7⟩
theorem fb8:ga1.Ok:=Lo.ok [] (by kernel_rfl) .nil rfl (.cons (fun a H=>by kernel_rfl) .nil) fun p s=>(.of @D6 (fun F _ _ _ _ _=>by unfold D6;(repeat' apply k9 (f:=F))<;>rfl) (by kernel_rfl))
structure W4 where
 alt:Nat
 is0:Int
 g8:List Pt
noncomputable def E3 {α:Type} (kk:W4→α) (x:W0):α:=let t1:=(lp (G5 (⟨(rt tP x.c7),(↑(List.length x.c7):Int)⟩:J1)) (⟨0,(rt tX x.g8)⟩:o7));(sl ((cnE tP x.c7)&&((cnE tX x.g8)&&true)) (sl (Nat.beq t1.1 1) (kk ⟨1,t1.2.is8,(rt tX t1.2.g8)⟩) (sl (Nat.beq t1.1 2) (kk ⟨1,(-1),t1.2.g8⟩) (kk ⟨0,0,[]⟩))) (kk ⟨0,0,[]⟩))
noncomputable def la4 (x:W0):W4:=E3 (fun r=>r) x
noncomputable def ia8 (x:W0) (r:W4):DT (b7×List b8):=(.ite (Nat.beq r.alt 1) (.ret ((i r.is0),[⟨0,1,[[(eL tX r.g8)]],true,false,0⟩])) .fail)
theorem ub1 {α β:Type} (F:α→β) (kk:W4→α) (x:W0):F (E3 kk x)=E3 (fun r=>F (kk r)) x:=by unfold E3;(repeat' apply k9 (f:=F))<;>rfl
noncomputable def Ha4:Sum:=Qa9 ⟨[(.s (.c 4 (nL tP))),(.fn 175 [(.o (.ptr 0 0 0 0))])],[⟨0,1,true,(some [[(.c 4 (nL tX))]])⟩],fun a H=>(⟨(rL tP (slT a 0)),(rL tX (slT (rwT (elT H 0) 0) 0))⟩,())⟩ (fun x=>ia8 x (la4 x))
theorem pb6:g9 prog G 221 Ha4:=K4 (enc:=fun x=>⟨[(eL tP x.c7),(.fn 175 [(.ptr 0 0 0 0)])],[⟨0,1,[[(eL tX x.g8)]],true,false,0⟩]⟩) (fun a H=>by kernel_rfl) (bd mf1 jb8) fun x=>ua4 (.s .p (.s (.s .p (.b (.u ga1.ls))) .p)) [ga1.pr] (by kernel_rfl) (.cons fb8 .nil) (Eq.trans (b:=E3 (fun r=>(ia8 x r).run) x) (by kernel_rfl) (ub1 (fun r=>(ia8 x r).run) (fun r=>r) x).symm)
structure O7 where
 c7:List Pln
 g8:List Pt
noncomputable def cb1:List (Nat×Sum):=[(221,Ha4)]
theorem Xa7:i6 prog G cb1:=⟨pb6,trivial⟩
structure O8 where
 alt:Nat
 bs0:Bool
 g8:List Pt
noncomputable def B0 {α:Type} (kk:O8→α) (x:O7):α:=let t1:=(la4 ⟨(rt tP x.c7),(rt tX x.g8)⟩);(sl ((cnE tP x.c7)&&((cnE tX x.g8)&&true)) (sl (Nat.beq t1.alt 1) (kk ⟨1,(decide (t1.is0≥0)),t1.g8⟩) (kk ⟨0,false,[]⟩)) (kk ⟨0,false,[]⟩))
noncomputable def da4 (x:O7):O8:=B0 (fun r=>r) x
noncomputable def ba1 (x:O7) (r:O8):DT (b7×List b8):=(.ite (Nat.beq r.alt 1) (.ret ((b r.bs0),[⟨0,1,[[(eL tX r.g8)]],true,false,0⟩])) .fail)
theorem fb9 {α β:Type} (F:α→β) (kk:O8→α) (x:O7):F (B0 kk x)=B0 (fun r=>F (kk r)) x:=by unfold B0;(repeat' apply k9 (f:=F))<;>rfl
noncomputable def xa3:Sum:=Qa9 ⟨[(.s (.c 4 (nL tP))),(.fn 175 [(.o (.ptr 0 0 0 0))])],[⟨0,1,true,(some [[(.c 4 (nL tX))]])⟩],fun a H=>(⟨(rL tP (slT a 0)),(rL tX (slT (rwT (elT H 0) 0) 0))⟩,())⟩ (fun x=>ba1 x (da4 x))
theorem cb2:g9 prog G 174 xa3:=K4 (enc:=fun x=>⟨[(eL tP x.c7),(.fn 175 [(.ptr 0 0 0 0)])],[⟨0,1,[[(eL tX x.g8)]],true,false,0⟩]⟩) (fun a H=>by kernel_rfl) (bd kf0 Xa7) fun x=>s6 (Eq.trans (b:=B0 (fun r=>(ba1 x r).run) x) (by kernel_rfl) (fb9 (fun r=>(ba1 x r).run) (fun r=>r) x).symm)
noncomputable def cc2:List (Nat×Sum):=[(89,Aa1),(174,xa3)]
theorem Ub2:i6 prog G cc2:=⟨Ra9,cb2,trivial⟩
noncomputable def ia9 (x:List Pln):Option (b7×List b8):=let t1:=(X7 (rt tP x));let t2:=(da4 ⟨(rt tP x),(rt tX t1)⟩);(sl (okE tP x) (sl (X8 (rt tP x)) (sl ((cnE tP x)&&((cnE tX t1)&&true)) (sl (Nat.beq t2.alt 1) (some ((b (!t2.bs0)),[])) none) none) none) none)
noncomputable def ja0 (x:List Pln):Bool:=L4 (one r1B) (ia9 x)
noncomputable def ja1 (x:List Pln):Bool:=okO (one r1B) (ia9 x)
noncomputable def Na8:Sum:=S3 (X5 tP) (fun x=>.guard (ja1 x) (.ret ((one r1B).enc (ja0 x),[])))
theorem ib1:g9 prog G 92 Na8:=Aa9 (bd b92 Ub2) (one r1B) (o:=ia9) fun x=>s6 (by kernel_rfl)
noncomputable def Sc0:List (Nat×Sum):=[(87,Ga4),(88,Zb6),(89,Aa1)]
theorem Gc5:i6 prog G Sc0:=⟨Ka0,ic9,Ra9,trivial⟩
noncomputable def Ka2 (x:List Pln):Option (b7×List b8):=let t1:=(fa7 [(rt tP x)]);let t2:=(Xa4 [(rt tP x)]);let t3:=(X7 (rt tP t2));(sl ((okE tP x)&&true) (sl (fa8 [(rt tP x)]) (sl (!t1) (some ((.v (.slice none 0 0)),[])) (sl ((okE tP x)&&true) (sl (Xa5 [(rt tP x)]) (sl (okE tP t2) (sl (X8 (rt tP t2)) (some ((eL tX t3),[])) none) none) none) none)) none) none)
noncomputable def R9 (x:List Pln):List Pt:=L4 (one (r1L tX)) (Ka2 x)
noncomputable def S1 (x:List Pln):Bool:=okO (one (r1L tX)) (Ka2 x)
noncomputable def pa5:Sum:=S3 (X5 tP) (fun x=>.guard (S1 x) (.ret ((one (r1L tX)).enc (R9 x),[])))
theorem sa8:g9 prog G 18 pa5:=Aa9 (bd b18 Gc5) (one (r1L tX)) (o:=Ka2) fun x=>s6 (by kernel_rfl)
noncomputable def td2:List (Nat×Sum):=[(87,Ga4),(88,Zb6),(92,Na8)]
theorem cd8:i6 prog G td2:=⟨Ka0,ic9,ib1,trivial⟩
noncomputable def cb3 (x:List Pln):Option (b7×List b8):=let t1:=(fa7 [(rt tP x)]);let t2:=(Xa4 [(rt tP x)]);let t3:=(ja0 (rt tP t2));(sl ((okE tP x)&&true) (sl (fa8 [(rt tP x)]) (sl t1 (sl ((okE tP x)&&true) (sl (Xa5 [(rt tP x)]) (sl (okE tP t2) (sl (ja1 (rt tP t2)) (some ((b t3),[])) none) none) none) none) (some ((b false),[]))) none) none)
noncomputable def ba2 (x:List Pln):Bool:=L4 (one r1B) (cb3 x)
noncomputable def ba3 (x:List Pln):Bool:=okO (one r1B) (cb3 x)
noncomputable def ua7:Sum:=S3 (X5 tP) (fun x=>.guard (ba3 x) (.ret ((one r1B).enc (ba2 x),[])))
theorem va3:g9 prog G 20 ua7:=Aa9 (bd b20 cd8) (one r1B) (o:=cb3) fun x=>s6 (by kernel_rfl)
noncomputable def cd9:List (Nat×Sum):=[]
theorem Sc1:i6 prog G cd9:=trivial
noncomputable def Ta1 (x:Int) (y:Int):Option (b7×List b8):=(sl (y==0) none (sl (y==0) none (sl (decide ((Int.tmod x y) < 0)) (some ((i (W ((W (Int.tdiv x y)) - 1))),[])) (some ((i (W (Int.tdiv x y))),[])))))
noncomputable def ga2 (x:Int) (y:Int):Int:=L4 (one r1I) (Ta1 x y)
noncomputable def ga3 (x:Int) (y:Int):Bool:=okO (one r1I) (Ta1 x y)
noncomputable def qc8:Sum:=pa2 cI cI (fun x y=>.guard (ga3 x y) (.ret ((one r1I).enc (ga2 x y),[])))
theorem dd0:g9 prog G 95 qc8:=ib8 (bd b95 Sc1) (one r1I) (o:=Ta1) fun x y=>s6 (by kernel_rfl)
noncomputable def ec6:List (Nat×Sum):=[(20,ua7),(94,Ib3),(18,pa5),(95,qc8)]
theorem Sc2:i6 prog G ec6:=⟨va3,ec2,sa8,dd0,trivial⟩
structure Da1 where
 Y8:List Pt
 Ge9:Int
structure ba4 where
 ka2:Int
 ha5:Int
 ha6:Int
 ha7:Int
 bc2:Int
 bc3:Int
 bc4:Int
noncomputable def Gc6 (p:Da1) (s:ba4):St:=⟨(.unk::(.unk::((.ptr 0 0 0 0)::((.ptr 1 0 0 0)::(.unk::((.ptr 2 0 0 0)::((.ptr 3 0 0 0)::(ra 11 ((eL tX p.Y8)::((i p.Ge9)::((i s.ka2)::(ra 62 [])))))))))))),[⟨0,3,[[(i 0),(i 0),(i 0)]],true,false,0⟩,⟨0,3,[[(i 0),(i 0),(i 0)]],true,false,0⟩,⟨0,3,[[(i s.ha5),(i s.ha6),(i s.ha7)]],true,false,0⟩,⟨0,3,[[(i s.bc2),(i s.bc3),(i s.bc4)]],true,false,0⟩]⟩
noncomputable def sa9 {α:Type} (k:ba4→α) (e:Nat→α) (z:α) (p:Da1) (s:ba4):α:=let t1:=(ga2 (gL tX p.Y8 s.ka2.toNat).px (gL tX p.Y8 s.ka2.toNat).pw);let t2:=(ga2 (gL tX p.Y8 s.ka2.toNat).py (gL tX p.Y8 s.ka2.toNat).pw);let t3:=(ga2 (gL tX p.Y8 s.ka2.toNat).pz (gL tX p.Y8 s.ka2.toNat).pw);let t4:=(ga2 (W (0 - (gL tX p.Y8 s.ka2.toNat).px)) (gL tX p.Y8 s.ka2.toNat).pw);let t5:=(ga2 (W (0 - (gL tX p.Y8 s.ka2.toNat).py)) (gL tX p.Y8 s.ka2.toNat).pw);let t6:=(ga2 (W (0 - (gL tX p.Y8 s.ka2.toNat).pz)) (gL tX p.Y8 s.ka2.toNat).pw);(sl (decide (s.ka2 < p.Ge9)) (sl (inB s.ka2 (List.length p.Y8)) (sl (ga3 (gL tX p.Y8 s.ka2.toNat).px (gL tX p.Y8 s.ka2.toNat).pw) (sl (ga3 (gL tX p.Y8 s.ka2.toNat).py (gL tX p.Y8 s.ka2.toNat).pw) (sl (ga3 (gL tX p.Y8 s.ka2.toNat).pz (gL tX p.Y8 s.ka2.toNat).pw) (sl (ga3 (W (0 - (gL tX p.Y8 s.ka2.toNat).px)) (gL tX p.Y8 s.ka2.toNat).pw) (sl (ga3 (W (0 - (gL tX p.Y8 s.ka2.toNat).py)) (gL tX p.Y8 s.ka2.toNat).pw) (sl (ga3 (W (0 - (gL tX p.Y8 s.ka2.toNat).pz)) (gL tX p.Y8 s.ka2.toNat).pw) (k ⟨(W (s.ka2+1)),(if t1 < s.ha5 then t1 else s.ha5),(if t2 < s.ha6 then t2 else s.ha6),(if t3 < s.ha7 then t3 else s.ha7),(if (W (0 - t4)) > s.bc2 then (W (0 - t4)) else s.bc2),(if (W (0 - t5)) > s.bc3 then (W (0 - t5)) else s.bc3),(if (W (0 - t6)) > s.bc4 then (W (0 - t6)) else s.bc4)⟩) z) z) z) z) z) z) z) (e 1))
noncomputable def ma1 (p:Da1) (s:ba4):Stp ba4:=sa9 .next .exit .fail p s
noncomputable def pb7:Lo Da1 ba4:=⟨En ec6,0,Ve9,[1,1,1,1,0,1,4,4],[2,3,5,6,18,19,20],.p,[⟨((.s (.o .unk))::((.s (.o .unk))::((.s (.o (.ptr 0 0 0 0)))::((.s (.o (.ptr 1 0 0 0)))::((.s (.o .unk))::((.s (.o (.ptr 2 0 0 0)))::((.s (.o (.ptr 3 0 0 0)))::(ru2 11 ((.s (.c 4 (nL tX)))::((.s (.o (.int .i64)))::((.s (.o (.int .i64)))::(ru2 62 [])))))))))))),[⟨0,3,true,(some [[(.o (.lit .i64 0)),(.o (.lit .i64 0)),(.o (.lit .i64 0))]])⟩,⟨0,3,true,(some [[(.o (.lit .i64 0)),(.o (.lit .i64 0)),(.o (.lit .i64 0))]])⟩,⟨0,3,true,(some [[(.o (.int .i64)),(.o (.int .i64)),(.o (.int .i64))]])⟩,⟨0,3,true,(some [[(.o (.int .i64)),(.o (.int .i64)),(.o (.int .i64))]])⟩],fun a H=>(⟨(rL tX (slT a 18)),(toI (slT a 19))⟩,⟨(toI (slT a 20)),(toI (slT (rwT (elT H 2) 0) 0)),(toI (slT (rwT (elT H 2) 0) 1)),(toI (slT (rwT (elT H 2) 0) 2)),(toI (slT (rwT (elT H 3) 0) 0)),(toI (slT (rwT (elT H 3) 0) 1)),(toI (slT (rwT (elT H 3) 0) 2))⟩)⟩],ma1,[(some 0,fun p s=>⟨(.unk::(.unk::((.ptr 0 0 0 0)::((.ptr 1 0 0 0)::(.unk::((.ptr 2 0 0 0)::((.ptr 3 0 0 0)::(ra 11 ((eL tX p.Y8)::((i p.Ge9)::((i s.ka2)::((b (decide (s.ka2 < p.Ge9)))::(ra 61 []))))))))))))),[⟨0,3,[[(i 0),(i 0),(i 0)]],true,false,0⟩,⟨0,3,[[(i 0),(i 0),(i 0)]],true,false,0⟩,⟨0,3,[[(i s.ha5),(i s.ha6),(i s.ha7)]],true,false,0⟩,⟨0,3,[[(i s.bc2),(i s.bc3),(i s.bc4)]],true,false,0⟩]⟩)],Gc6⟩
theorem Gc7:pb7.Ok:=Lo.ok [] (by kernel_rfl) .nil rfl (.cons (fun a H=>by kernel_rfl) .nil) fun p s=>(.of @sa9 (fun F _ _ _ _ _=>by unfold sa9;(repeat' apply k9 (f:=F))<;>rfl) (by kernel_rfl))
noncomputable def Ta2 (x:List Pln):Option (b7×List b8):=let t1:=(ba2 (rt tP x));let t2:=(T5 (⟨24,24,24⟩:V3) (-1));let t3:=(R9 (rt tP x));let t4:=(lp (ma1 (⟨(rt tX t3),(↑(List.length t3):Int)⟩:Da1)) (⟨0,24,24,24,t2.x,t2.y,t2.z⟩:ba4));(sl (okE tP x) (sl (ba3 (rt tP x)) (sl (!t1) (some ((.tup [(.agg [(i 0),(i 0),(i 0)]),(.agg [(i 0),(i 0),(i 0)]),(b false)]),[])) (sl (okE tP x) (sl (S1 (rt tP x)) (sl ((cnE tX t3)&&true) (sl (Nat.beq t4.1 1) (some ((.tup [(.agg [(i t4.2.ha5),(i t4.2.ha6),(i t4.2.ha7)]),(.agg [(i t4.2.bc2),(i t4.2.bc3),(i t4.2.bc4)]),(b true)]),[])) none) none) none) none)) none) none)
noncomputable def jb9 (x:List Pln):V3×V3×Bool:=L4 (wb2 r1V r1V r1B) (Ta2 x)
noncomputable def kb0 (x:List Pln):Bool:=okO (wb2 r1V r1V r1B) (Ta2 x)
noncomputable def qc9:Sum:=S3 (X5 tP) (fun x=>.guard (kb0 x) (.ret ((wb2 r1V r1V r1B).enc (jb9 x),[])))
theorem dd1:g9 prog G 22 qc9:=Aa9 (bd b22 Sc2) (wb2 r1V r1V r1B) (o:=Ta2) fun x=>ua4 (.s .p (.s .p (.s .p (.s .p (.s (.s .p (.b (.u pb7.ls))) .p))))) [pb7.pr] (by kernel_rfl) (.cons Gc7 .nil) (by kernel_rfl)
end Go.Ev.Ce
end
