/- Own work: a part of the proof. -/
import Derived.Test.YtlccibobknidjaaGreatEvBd
import Derived.Test.YtlccibobknidjaaGreatChecked
import Derived.Test.YtlccibobknidjaaGreatEvCePf
import Derived.KernelRfl
import Derived.Test.YtlccibobknidjaaGreatEvSp3
import Derived.Test.YtlccibobknidjaaGreatEvMem
import Derived.Shelf.Spec.SlicesGrow
set_option linter.unusedVariables false
set_option linter.unusedSimpArgs false
set_option linter.unnecessarySimpa false
set_option linter.unusedSectionVars false
section
namespace Go.Ev.Ce
open Go Go.Ev Go.Proofs
set_option maxRecDepth 1000000
theorem mx:(Tryz.prog).follows .mixedOrders=true:=Checked.mixed Tryz.checked
theorem b3:s7 Tryz.prog 3 fun E=>i9 E pf3:=y9 mx Tryz.func3 (by kernel_rfl) (g7 (by kernel_rfl))
theorem b4:s7 Tryz.prog 4 fun E=>i9 E pf4:=y9 mx Tryz.func4 (by kernel_rfl) (g7 (by kernel_rfl))
theorem b5:s7 Tryz.prog 5 fun E=>i9 E pf5:=y9 mx Tryz.func5 (by kernel_rfl) (g7 (by kernel_rfl))
theorem b6:s7 Tryz.prog 6 fun E=>i9 E pf6:=y9 mx Tryz.func6 (by kernel_rfl) (g7 (by kernel_rfl))
theorem b12:s7 Tryz.prog 12 fun E=>i9 E Te9:=y9 mx Tryz.func12 (by kernel_rfl) (g7 (by kernel_rfl))
theorem b13:s7 Tryz.prog 13 fun E=>i9 E Cf5:=y9 mx Tryz.func13 (by kernel_rfl) (g7 (by kernel_rfl))
theorem b15:s7 Tryz.prog 15 fun E=>i9 E Cf6:=y9 mx Tryz.func15 (by kernel_rfl) (g7 (by kernel_rfl))
theorem b17:s7 Tryz.prog 17 fun E=>i9 E tf3:=y9 mx Tryz.func17 (by kernel_rfl) (g7 (by kernel_rfl))
theorem b18:s7 Tryz.prog 18 fun E=>i9 E Cf7:=y9 mx Tryz.func18 (by kernel_rfl) (g7 (by kernel_rfl))
theorem b20:s7 Tryz.prog 20 fun E=>i9 E Cf8:=y9 mx Tryz.func20 (by kernel_rfl) (g7 (by kernel_rfl))
theorem b22:s7 Tryz.prog 22 fun E=>i9 E tf4:=y9 mx Tryz.func22 (by kernel_rfl) (g7 (by kernel_rfl))
theorem b25:s7 Tryz.prog 25 fun E=>i9 E Cf9:=y9 mx Tryz.func25 (by kernel_rfl) (g7 (by kernel_rfl))
theorem b26:s7 Tryz.prog 26 fun E=>i9 E tf5:=y9 mx Tryz.func26 (by kernel_rfl) (g7 (by kernel_rfl))
theorem b28:s7 Tryz.prog 28 fun E=>i9 E Df0:=y9 mx Tryz.func28 (by kernel_rfl) (g7 (by kernel_rfl))
theorem b31:s7 Tryz.prog 31 fun E=>i9 E Df1:=y9 mx Tryz.func31 (by kernel_rfl) (g7 (by kernel_rfl))
theorem b33:s7 Tryz.prog 33 fun E=>i9 E Df2:=y9 mx Tryz.func33 (by kernel_rfl) (g7 (by kernel_rfl))
theorem b36:s7 Tryz.prog 36 fun E=>i9 E Df3:=y9 mx Tryz.func36 (by kernel_rfl) (g7 (by kernel_rfl))
theorem b46:s7 Tryz.prog 46 fun E=>i9 E tf6:=y9 mx Tryz.func46 (by kernel_rfl) (g7 (by kernel_rfl))
theorem b47:s7 Tryz.prog 47 fun E=>i9 E Df4:=y9 mx Tryz.func47 (by kernel_rfl) (g7 (by kernel_rfl))
theorem b54:s7 Tryz.prog 54 fun E=>i9 E Df5:=y9 mx Tryz.func54 (by kernel_rfl) (g7 (by kernel_rfl))
theorem b55:s7 Tryz.prog 55 fun E=>i9 E Df6:=y9 mx Tryz.func55 (by kernel_rfl) (g7 (by kernel_rfl))
theorem b80:s7 Tryz.prog 80 fun E=>Nb4 E Ue0:=ke4 (h:=h80) mx Tryz.func80 (by kernel_rfl) Tryz.func211 (by kernel_rfl) (g7 (by kernel_rfl))
theorem b81:s7 Tryz.prog 81 fun E=>i9 E Df7:=y9 mx Tryz.func81 (by kernel_rfl) (g7 (by kernel_rfl))
theorem b83:s7 Tryz.prog 83 fun E=>i9 E Df8:=y9 mx Tryz.func83 (by kernel_rfl) (g7 (by kernel_rfl))
theorem b84:s7 Tryz.prog 84 fun E=>i9 E Df9:=y9 mx Tryz.func84 (by kernel_rfl) (g7 (by kernel_rfl))
theorem b85:s7 Tryz.prog 85 fun E=>i9 E Ef0:=y9 mx Tryz.func85 (by kernel_rfl) (g7 (by kernel_rfl))
theorem b86:s7 Tryz.prog 86 fun E=>i9 E Ef1:=y9 mx Tryz.func86 (by kernel_rfl) (g7 (by kernel_rfl))
theorem b87:s7 Tryz.prog 87 fun E=>i9 E Ef2:=y9 mx Tryz.func87 (by kernel_rfl) (g7 (by kernel_rfl))
theorem b88:s7 Tryz.prog 88 fun E=>i9 E Ef3:=y9 mx Tryz.func88 (by kernel_rfl) (g7 (by kernel_rfl))
theorem b89:s7 Tryz.prog 89 fun E=>Nb4 E Ue1:=ke4 (h:=h89) mx Tryz.func89 (by kernel_rfl) Tryz.func217 (by kernel_rfl) (g7 (by kernel_rfl))
theorem b92:s7 Tryz.prog 92 fun E=>i9 E Ef4:=y9 mx Tryz.func92 (by kernel_rfl) (g7 (by kernel_rfl))
theorem b94:s7 Tryz.prog 94 fun E=>i9 E Ef5:=y9 mx Tryz.func94 (by kernel_rfl) (g7 (by kernel_rfl))
theorem b95:s7 Tryz.prog 95 fun E=>i9 E Ef6:=y9 mx Tryz.func95 (by kernel_rfl) (g7 (by kernel_rfl))
theorem b98:s7 Tryz.prog 98 fun E=>i9 E Ef7:=y9 mx Tryz.func98 (by kernel_rfl) (g7 (by kernel_rfl))
theorem b99:s7 Tryz.prog 99 fun E=>i9 E tf7:=y9 mx Tryz.func99 (by kernel_rfl) (g7 (by kernel_rfl))
theorem kf8:s7 Tryz.prog 100 fun E=>i9 E tf8:=y9 mx Tryz.func100 (by kernel_rfl) (g7 (by kernel_rfl))
theorem Ef8:s7 Tryz.prog 101 fun E=>i9 E df0:=y9 mx Tryz.func101 (by kernel_rfl) (g7 (by kernel_rfl))
theorem Ef9:s7 Tryz.prog 102 fun E=>i9 E tf9:=y9 mx Tryz.func102 (by kernel_rfl) (g7 (by kernel_rfl))
theorem Ff0:s7 Tryz.prog 103 fun E=>i9 E uf0:=y9 mx Tryz.func103 (by kernel_rfl) (g7 (by kernel_rfl))
theorem Ff1:s7 Tryz.prog 104 fun E=>i9 E uf1:=y9 mx Tryz.func104 (by kernel_rfl) (g7 (by kernel_rfl))
theorem yf1:s7 Tryz.prog 105 fun E=>i9 E De2:=y9 mx Tryz.func105 (by kernel_rfl) (g7 (by kernel_rfl))
theorem Ff2:s7 Tryz.prog 107 fun E=>i9 E uf2:=y9 mx Tryz.func107 (by kernel_rfl) (g7 (by kernel_rfl))
theorem Ff3:s7 Tryz.prog 108 fun E=>i9 E uf3:=y9 mx Tryz.func108 (by kernel_rfl) (g7 (by kernel_rfl))
theorem Ff4:s7 Tryz.prog 109 fun E=>i9 E uf4:=y9 mx Tryz.func109 (by kernel_rfl) (g7 (by kernel_rfl))
theorem Ff5:s7 Tryz.prog 111 fun E=>i9 E uf5:=y9 mx Tryz.func111 (by kernel_rfl) (g7 (by kernel_rfl))
theorem yf2:s7 Tryz.prog 113 fun E=>i9 E uf6:=y9 mx Tryz.func113 (by kernel_rfl) (g7 (by kernel_rfl))
theorem Ff6:s7 Tryz.prog 114 fun E=>i9 E uf7:=y9 mx Tryz.func114 (by kernel_rfl) (g7 (by kernel_rfl))
theorem Ff7:s7 Tryz.prog 115 fun E=>i9 E uf8:=y9 mx Tryz.func115 (by kernel_rfl) (g7 (by kernel_rfl))
theorem Ff8:s7 Tryz.prog 116 fun E=>i9 E uf9:=y9 mx Tryz.func116 (by kernel_rfl) (g7 (by kernel_rfl))
theorem Ff9:s7 Tryz.prog 124 fun E=>i9 E Sd4:=y9 mx Tryz.func124 (by kernel_rfl) (g7 (by kernel_rfl))
theorem Gf0:s7 Tryz.prog 129 fun E=>i9 E vf0:=y9 mx Tryz.func129 (by kernel_rfl) (g7 (by kernel_rfl))
theorem Gf1:s7 Tryz.prog 130 fun E=>i9 E vf1:=y9 mx Tryz.func130 (by kernel_rfl) (g7 (by kernel_rfl))
theorem Gf2:s7 Tryz.prog 132 fun E=>i9 E vf2:=y9 mx Tryz.func132 (by kernel_rfl) (g7 (by kernel_rfl))
theorem Gf3:s7 Tryz.prog 133 fun E=>i9 E df1:=y9 mx Tryz.func133 (by kernel_rfl) (g7 (by kernel_rfl))
theorem Gf4:s7 Tryz.prog 134 fun E=>i9 E De3:=y9 mx Tryz.func134 (by kernel_rfl) (g7 (by kernel_rfl))
theorem Gf5:s7 Tryz.prog 135 fun E=>i9 E df2:=y9 mx Tryz.func135 (by kernel_rfl) (g7 (by kernel_rfl))
theorem yf3:s7 Tryz.prog 136 fun E=>i9 E vf3:=y9 mx Tryz.func136 (by kernel_rfl) (g7 (by kernel_rfl))
theorem Gf6:s7 Tryz.prog 142 fun E=>i9 E vf4:=y9 mx Tryz.func142 (by kernel_rfl) (g7 (by kernel_rfl))
theorem Gf7:s7 Tryz.prog 157 fun E=>i9 E vf5:=y9 mx Tryz.func157 (by kernel_rfl) (g7 (by kernel_rfl))
theorem Gf8:s7 Tryz.prog 160 fun E=>i9 E vf6:=y9 mx Tryz.func160 (by kernel_rfl) (g7 (by kernel_rfl))
theorem Gf9:s7 Tryz.prog 161 fun E=>i9 E df3:=y9 mx Tryz.func161 (by kernel_rfl) (g7 (by kernel_rfl))
theorem Hf0:s7 Tryz.prog 162 fun E=>i9 E vf7:=y9 mx Tryz.func162 (by kernel_rfl) (g7 (by kernel_rfl))
theorem De9:s7 Tryz.prog 163 fun E=>i9 E zd7:=y9 mx Tryz.func163 (by kernel_rfl) (g7 (by kernel_rfl))
theorem Hf1:s7 Tryz.prog 164 fun E=>i9 E df4:=y9 mx Tryz.func164 (by kernel_rfl) (g7 (by kernel_rfl))
theorem Hf2:s7 Tryz.prog 165 fun E=>i9 E De4:=y9 mx Tryz.func165 (by kernel_rfl) (g7 (by kernel_rfl))
theorem Hf3:s7 Tryz.prog 166 fun E=>i9 E df5:=y9 mx Tryz.func166 (by kernel_rfl) (g7 (by kernel_rfl))
theorem Hf4:s7 Tryz.prog 167 fun E=>i9 E df6:=y9 mx Tryz.func167 (by kernel_rfl) (g7 (by kernel_rfl))
theorem Hf5:s7 Tryz.prog 168 fun E=>i9 E vf8:=y9 mx Tryz.func168 (by kernel_rfl) (g7 (by kernel_rfl))
theorem Hf6:s7 Tryz.prog 169 fun E=>Nb4 E De5:=ke4 (h:=tf1) mx Tryz.func169 (by kernel_rfl) Tryz.func216 (by kernel_rfl) (g7 (by kernel_rfl))
theorem Hf7:s7 Tryz.prog 170 fun E=>i9 E df7:=y9 mx Tryz.func170 (by kernel_rfl) (g7 (by kernel_rfl))
theorem Hf8:s7 Tryz.prog 171 fun E=>i9 E vf9:=y9 mx Tryz.func171 (by kernel_rfl) (g7 (by kernel_rfl))
theorem Hf9:s7 Tryz.prog 174 fun E=>i9 E wf0:=y9 mx Tryz.func174 (by kernel_rfl) (g7 (by kernel_rfl))
theorem If0:s7 Tryz.prog 175 fun E=>i9 E wf1:=y9 mx Tryz.func175 (by kernel_rfl) (g7 (by kernel_rfl))
theorem If1:s7 Tryz.prog 176 fun E=>i9 E wf2:=y9 mx Tryz.func176 (by kernel_rfl) (g7 (by kernel_rfl))
theorem If2:s7 Tryz.prog 177 fun E=>i9 E df8:=y9 mx Tryz.func177 (by kernel_rfl) (g7 (by kernel_rfl))
theorem If3:s7 Tryz.prog 178 fun E=>i9 E df9:=y9 mx Tryz.func178 (by kernel_rfl) (g7 (by kernel_rfl))
theorem If4:s7 Tryz.prog 179 fun E=>i9 E wf3:=y9 mx Tryz.func179 (by kernel_rfl) (g7 (by kernel_rfl))
theorem If5:s7 Tryz.prog 181 fun E=>i9 E wf4:=y9 mx Tryz.func181 (by kernel_rfl) (g7 (by kernel_rfl))
theorem yf4:s7 Tryz.prog 185 fun E=>i9 E De6:=y9 mx Tryz.func185 (by kernel_rfl) (g7 (by kernel_rfl))
theorem If6:s7 Tryz.prog 186 fun E=>i9 E wf5:=y9 mx Tryz.func186 (by kernel_rfl) (g7 (by kernel_rfl))
theorem If7:s7 Tryz.prog 187 fun E=>i9 E wf6:=y9 mx Tryz.func187 (by kernel_rfl) (g7 (by kernel_rfl))
theorem If8:s7 Tryz.prog 194 fun E=>i9 E wf7:=y9 mx Tryz.func194 (by kernel_rfl) (g7 (by kernel_rfl))
theorem If9:s7 Tryz.prog 197 fun E=>i9 E wf8:=y9 mx Tryz.func197 (by kernel_rfl) (g7 (by kernel_rfl))
theorem Ue2:s7 Tryz.prog 198 fun E=>i9 E Sd5:=y9 mx Tryz.func198 (by kernel_rfl) (g7 (by kernel_rfl))
theorem Jf0:s7 Tryz.prog 199 fun E=>i9 E wf9:=y9 mx Tryz.func199 (by kernel_rfl) (g7 (by kernel_rfl))
theorem Jf1:s7 Tryz.prog 201 fun E=>i9 E xf0:=y9 mx Tryz.func201 (by kernel_rfl) (g7 (by kernel_rfl))
theorem Jf2:s7 Tryz.prog 202 fun E=>i9 E De7:=y9 mx Tryz.func202 (by kernel_rfl) (g7 (by kernel_rfl))
theorem Jf3:s7 Tryz.prog 207 fun E=>i9 E ef0:=y9 mx Tryz.func207 (by kernel_rfl) (g7 (by kernel_rfl))
theorem Jf4:s7 Tryz.prog 208 fun E=>i9 E xf1:=y9 mx Tryz.func208 (by kernel_rfl) (g7 (by kernel_rfl))
theorem kf9:s7 Tryz.prog 209 fun E=>i9 E xf2:=y9 mx Tryz.func209 (by kernel_rfl) (g7 (by kernel_rfl))
theorem Jf5:s7 Tryz.prog 210 fun E=>Nb4 E ke5:=ke4 (h:=tf2) mx Tryz.func210 (by kernel_rfl) Tryz.func211 (by kernel_rfl) (g7 (by kernel_rfl))
theorem Jf6:s7 Tryz.prog 212 fun E=>i9 E xf3:=y9 mx Tryz.func212 (by kernel_rfl) (g7 (by kernel_rfl))
theorem Jf7:s7 Tryz.prog 213 fun E=>i9 E xf4:=y9 mx Tryz.func213 (by kernel_rfl) (g7 (by kernel_rfl))
theorem Jf8:s7 Tryz.prog 214 fun E=>i9 E xf5:=y9 mx Tryz.func214 (by kernel_rfl) (g7 (by kernel_rfl))
theorem Jf9:s7 Tryz.prog 215 fun E=>i9 E xf6:=y9 mx Tryz.func215 (by kernel_rfl) (g7 (by kernel_rfl))
theorem Kf0:s7 Tryz.prog 217 fun E=>i9 E ef1:=y9 mx Tryz.func217 (by kernel_rfl) (g7 (by kernel_rfl))
theorem Kf1:s7 Tryz.prog 218 fun E=>i9 E De8:=y9 mx Tryz.func218 (by kernel_rfl) (g7 (by kernel_rfl))
theorem Kf2:s7 Tryz.prog 221 fun E=>i9 E ef2:=y9 mx Tryz.func221 (by kernel_rfl) (g7 (by kernel_rfl))
theorem Kf3:s7 Tryz.prog 222 fun E=>i9 E ef3:=y9 mx Tryz.func222 (by kernel_rfl) (g7 (by kernel_rfl))
theorem Kf4:s7 Tryz.prog 230 fun E=>i9 E ef4:=y9 mx Tryz.func230 (by kernel_rfl) (g7 (by kernel_rfl))
theorem Kf5:s7 Tryz.prog 231 fun E=>i9 E ef5:=y9 mx Tryz.func231 (by kernel_rfl) (g7 (by kernel_rfl))
theorem Kf6:s7 Tryz.prog 234 fun E=>i9 E ef6:=y9 mx Tryz.func234 (by kernel_rfl) (g7 (by kernel_rfl))
theorem Kf7:s7 Tryz.prog 235 fun E=>i9 E xf7:=y9 mx Tryz.func235 (by kernel_rfl) (g7 (by kernel_rfl))
theorem Kf8:s7 Tryz.prog 238 fun E=>i9 E xf8:=y9 mx Tryz.func238 (by kernel_rfl) (g7 (by kernel_rfl))
theorem Kf9:s7 Tryz.prog 239 fun E=>i9 E xf9:=y9 mx Tryz.func239 (by kernel_rfl) (g7 (by kernel_rfl))
theorem Lf0:s7 Tryz.prog 253 fun E=>i9 E yf0:=y9 mx Tryz.func253 (by kernel_rfl) (g7 (by kernel_rfl))
end Go.Ev.Ce
end
namespace Go.Ev.L
open Go Go.Ev
noncomputable def jc5:RT→PC→PS2
 | .s a b,.seq x y=>.seq (jc5 a x) (jc5 b y)
 | .c a b,.cond g x y=>.cond g (jc5 a x) (jc5 b y)
 | .b a,.block id x=>.block id (jc5 a x)
 | .i a,.inner f x n c=>.inner f x n (jc5 a c)
 | .u S,_=>.sum S
 | _,c=>.pc c
theorem Gd1 {E:Env} {k:Nat} (rt:RT) (c:PC):bb4 (fun x=>∀ s,fa3 (x.1 s) (S4 E k x.2 s)) (rc7 rt c)→ua4 E k (jc5 rt c) c:=by
 induction rt generalizing c with
 | p=>intro h;cases c<;>exact .pc _
 | s a b iha ihb =>
  intro h
  cases c with
  | seq x y=>exact .seq (iha x (bb4.app h).1) (ihb y (bb4.app h).2)
  | _=>exact .pc _
 | c a b iha ihb =>
  intro h
  cases c with
  | cond g x y=>exact .cond g (iha x (bb4.app h).1) (ihb y (bb4.app h).2)
  | _=>exact .pc _
 | b a iha =>
  intro h
  cases c with
  | block id x=>exact .block id (iha x h)
  | _=>exact .pc _
 | l a iha=>intro h;cases c<;>exact .pc _
 | i a iha =>
  intro h
  cases c with
  | inner f x n c=>exact .inner f x n (iha c h)
  | _=>exact .pc _
 | u S =>
  intro h
  have:rc7 (.u S) c=[(S,c)]:=by cases c<;>rfl
  rw[this] at h
  cases h with
  | cons h t =>
   have e:jc5 (.u S) c=.sum S:=by cases c<;>rfl
   rw[e]
   exact .sum h
section
variable {π σ:Type} {E:Env} {k:Nat} {keep:List Nat} {alts:List (Al2 π σ)} {enc:π→σ→St} {step:π→σ→Stp σ} {xs:Xs π σ} {body:PS2} {c:PC}
theorem ic3.belowM (hb:ua4 E k body c) (hN:E.N=rounds+1) (w:ic3 Sd3 k keep (Lc8 E k body) alts step xs enc) (s:St):fa3 (yd7 Sd3 k keep alts step xs s) (S4 E k (.loopM keep c) s):=fun r hr=>by
 obtain⟨t,h1,h2⟩:=w.go hr
 rw[de9,hN]
 exact Wb3 hb.le _ _ _ (pc0 h1 h2)
theorem ic3.belowML (hb:ua4 E k body c) (hN:E.N=rounds+1) (w:ic3 hc9 k keep (Lc8 E k body) alts step xs enc) (s:St):fa3 (yd7 hc9 k keep alts step xs s) (S4 E k (.loop keep c) s):=fun r hr=>by
 obtain⟨t,h1,h2⟩:=w.go hr
 rw[yd4,hN]
 exact Wb3 hb.le _ _ _ (pc0 h1 h2)
end
end Go.Ev.L
namespace Go.Ev.Ab
open Go Go.Ev
@[reducible] def o (d:Nat) (x:PO):PI:=⟨some d,none,[],x⟩
@[reducible] def s (x:PO):PI:=⟨none,none,[],x⟩
@[reducible] def ci (n:Int):Arg:=.c (.v (.int .i64 n))
@[reducible] def cb (b:Bool):Arg:=.c (.v (.bool b))
@[reducible] def vi (n:Int):b7:=.v (.int .i64 n)
@[reducible] def rep {α:Type} (n:Nat) (x:α):List α:=List.replicate n x
@[reducible] def ki (n:Nat):List CK:=List.replicate n (.int .i64)
@[reducible] def mv (d n:Nat):PI:=o d (.mv (.t n))
@[reducible] def mc (d:Nat) (n:Int):PI:=o d (.mv (ci n))
@[reducible] def mb (d:Nat) (x:Bool):PI:=o d (.mv (cb x))
@[reducible] def fd (d k n:Nat):PI:=o d (.fld k (.t n))
@[reducible] def lf (d k n:Nat):PI:=o d (.load (ki k) k false (.t n))
@[reducible] def ex (d x k:Nat):PI:=o d (.ext (.t x) k)
@[reducible] def gf (n:Nat) (x:PI):PI:=⟨x.dst,some (n,false),x.hide,x.op⟩
@[reducible] def so (l:List PI) (x:PC):PC:=.seq (.ops l) x
@[reducible] def sq (x y:PC):PC:=.seq x y
@[reducible] def ts (l:List Nat):List Arg:=l.map .t
@[reducible] def cl (f:Nat) (l:List Nat):PO:=.call f (ts l)
@[reducible] def sT (k a b:Nat):PI:=s (.store k (.t a) (.t b))
@[reducible] def pa (d c x:Nat):PI:=o d (.pick (.t c) (.t x) (cb false))
@[reducible] def po (d c x:Nat):PI:=o d (.pick (.t c) (cb true) (.t x))
@[reducible] def al (d k:Nat) (n:Int):PI:=o d (.alloc (rep k (vi n)))
@[reducible] def ap (d et es n x y:Nat):PI:=o d (.append et es n (.t x) (.t y))
end Go.Ev.Ab
namespace Go.Ev.L
open Go Go.Ev
def Cps {π σ:Type} (u:∀ {α:Type},(σ→α)→(Nat→α)→α→π→σ→α):Prop :=
 ∀ {α β:Type} (F:α→β) (k:σ→α) (e:Nat→α) (z:α) (p:π) (s:σ),F (u k e z p s)=u (fun x=>F (k x)) (fun t=>F (e t)) (F z) p s
@[reducible] noncomputable def foL {π σ:Type} (en:π→σ→St) (xs:Xs π σ) (p:π) (s:σ):Stp σ→Option (d8×St):=ic0 (fun s'=>some (.normal,en p s')) (fun t=>xOf xs p s t 1) none
structure Lo (π σ:Type) where
 E:Env
 k:Nat
 F:PFn
 at':List Nat
 kp:List Nat
 rt:RT
 al:List (Al2 π σ)
 st:π→σ→Stp σ
 xs:Xs π σ
 en:π→σ→St
namespace Lo
variable {π σ:Type} (L:Lo π σ)
noncomputable def lc:PC:=Cf3 L.at' L.F.body
noncomputable def ls:St→DT (d8×St):=yd7 hc9 L.k L.kp L.al L.st L.xs
noncomputable def lsM:St→DT (d8×St):=yd7 Sd3 L.k L.kp L.al L.st L.xs
noncomputable def pr:(St→DT (d8×St))×PC:=(L.ls,.loop L.kp L.lc)
noncomputable def prM:(St→DT (d8×St))×PC:=(L.lsM,.loopM L.kp L.lc)
def Ok:Prop:=∀ s,na3 L.k L.F.res (L.pr.1 s) (S4 L.E L.k L.pr.2 s)
def OkE:Prop:=∀ s,fa3 (L.pr.1 s) (S4 L.E L.k L.pr.2 s)
def OkM:Prop:=∀ s,fa3 (L.prM.1 s) (S4 L.E L.k L.prM.2 s)
def Rd (hd:St→DT St) (bd:St→DT (d8×St)) (p:π) (s:σ) (a:St) (b:Stp σ):Prop:=(Wb4 hd bd a).run=foL L.en L.xs p s b
def H0:Prop:=∀ p s,L.Rd (hc9 L.k L.kp) (je0 L.E L.k L.F.res (qd2 L.rt L.lc)) p s (L.en p s) (L.st p s)
def H1:Prop:=∀ p s,L.Rd (hc9 L.k L.kp) (Lc8 L.E L.k (jc5 L.rt L.lc)) p s (L.en p s) (L.st p s)
def H2:Prop:=∀ p s,L.Rd (Sd3 L.k L.kp) (Lc8 L.E L.k (jc5 L.rt L.lc)) p s (L.en p s) (L.st p s)
def HA:Prop:=bb4 (fun x=>∀ a H,(⟨re5 x.sh a,re6 x.bl H⟩:St)=L.en (x.rd a H).1 (x.rd a H).2) L.al
variable {L}
theorem Rd.of {hd : St → DT St} {bd : St → DT (d8 × St)} {p : π} {s : σ} {a : St} (u : ∀ {α : Type}, (σ → α) → (Nat → α) → α → π → σ → α)
  (q:Cps @u) (H:(Wb4 hd bd a).run=u (fun x=>foL L.en L.xs p s (.next x)) (fun t=>foL L.en L.xs p s (.exit t)) (foL L.en L.xs p s .fail) p s):L.Rd hd bd p s a (u .next .exit .fail p s) :=
 H.trans (q (foL L.en L.xs p s) Stp.next Stp.exit Stp.fail p s).symm
theorem Rd.sel {hd:St→DT St} {bd:St→DT (d8×St)} {p:π} {s:σ} {a1 a0:St} {b1 b0:Stp σ} (c:Bool) (h1:L.Rd hd bd p s a1 b1) (h0:L.Rd hd bd p s a0 b0):L.Rd hd bd p s (sel c a1 a0) (sel c b1 b0):=by
 cases c with
 | true=>exact h1
 | false=>exact h0
theorem ok (l:List ((St→DT (d8×St))×PC)) (hs:rc7 L.rt L.lc=l) (hl:bb4 (fun x=>∀ s,na3 L.k L.F.res (x.1 s) (S4 L.E L.k x.2 s)) l) (hN:L.E.N=rounds+1) (ha:L.HA) (h:L.H0):L.Ok :=
 ic3.belowC (je8 _ _ (by rw[hs];exact hl)) hN ⟨ha,h⟩
theorem okE (l:List ((St→DT (d8×St))×PC)) (hs:rc7 L.rt L.lc=l) (hl:bb4 (fun x=>∀ s,fa3 (x.1 s) (S4 L.E L.k x.2 s)) l) (hN:L.E.N=rounds+1) (ha:L.HA) (h:L.H1):L.OkE :=
 ic3.belowML (Gd1 _ _ (by rw[hs];exact hl)) hN ⟨ha,h⟩
theorem okM (l:List ((St→DT (d8×St))×PC)) (hs:rc7 L.rt L.lc=l) (hl:bb4 (fun x=>∀ s,fa3 (x.1 s) (S4 L.E L.k x.2 s)) l) (hN:L.E.N=rounds+1) (ha:L.HA) (h:L.H2):L.OkM :=
 ic3.belowM (Gd1 _ _ (by rw[hs];exact hl)) hN ⟨ha,h⟩
end Lo
theorem Ma1 {E : Env} {F : PFn} {args : List b7} {blks : List b8} {o : Option (b7 × List b8)} (rt : RT) (l : List ((St → DT (d8 × St)) × PC)) (hs : rc7 rt F.body = l)
  (hl:bb4 (fun x=>∀ s,na3 (len blks) F.res (x.1 s) (S4 E (len blks) x.2 s)) l) (h:(sf2 E F (qd2 rt F.body) args blks).run=o) (r:b7×List b8) (hr:o=some r):(i9 E F args blks).run=some r :=
 ce5 (je8 rt _ (by rw[hs];exact hl)) r (h.trans hr)
theorem ke6 {E : Env} {F : PFn} {args : List b7} {blks : List b8} {o : Option (b7 × List b8)} (rt : RT) (l : List ((St → DT (d8 × St)) × PC)) (hs : rc7 rt F.body = l)
  (hl:bb4 (fun x=>∀ s,fa3 (x.1 s) (S4 E (len blks) x.2 s)) l) (h:(cf9 E F (jc5 rt F.body) args blks).run=o) (r:b7×List b8) (hr:o=some r):(Nb4 E F args blks).run=some r :=
 Sd2 (Gd1 rt _ (by rw[hs];exact hl)) r (h.trans hr)
theorem q8 {A o:Option (b7×List b8)} (h:A=o) (r:b7×List b8) (hr:o=some r):A=some r:=h.trans hr
end Go.Ev.L
namespace Go.Ev.Ce
structure V3 where
 x:Int
 y:Int
 z:Int
structure Pln where
 n:V3
 b:Int
structure Pt where
 px:Int
 py:Int
 pz:Int
 pw:Int
def c9 (a b:V3):V3:=⟨a.y*b.z - a.z*b.y,a.z*b.x - a.x*b.z,a.x*b.y - a.y*b.x⟩
def dot (a b:V3):Int:=a.x*b.x+a.y*b.y+a.z*b.z
def mw (p q r:Pln):Int:=dot p.n (c9 q.n r.n)
end Go.Ev.Ce
namespace Go.Ev.Ce
open Go Go.Ev Go.Ev.L Go.Proofs
@[reducible] noncomputable def prog:Program:=Tryz.prog
noncomputable def G:Nat→List Value:=fun _=>[]
noncomputable def En (l:List (Nat×Sum)):Env:={ P:=prog,G,fns:=fun _=>none,call:=if7 l,own:=fun f j=>Bool.and (mb5 f [99,103,105,135,163,198,200,202]) (Nat.beq j 0),N:=18446744073709551616 }
@[reducible] def u:b7:=.v (.tuple #[])
theorem yf5 {l:List (Nat×Sum)} (h:i4 prog G l):∀ f,g8 (En l).P (En l).G f ((En l).call f):=ie8 h
theorem bd {l:List (Nat×Sum)} {f:FuncId} {R:Env→Sum} (b:s7 prog f R) (h:i4 prog G l):g8 prog G f (R (En l)):=b rfl (yf5 h)
noncomputable def tV:Ty V3 where
 es:=3
 row x:=[i x.x,i x.y,i x.z]
 rd r:=⟨toI (hdA r),toI (hdA (tlA r)),toI (hdA (tlA (tlA r)))⟩
 ok r:=Xa7 3 r
 cks:=List.replicate 3 (.int .i64)
 d:=⟨0,0,0⟩
 h0 _:=rfl
 h1 _:=rfl
 h2 _:=rfl
 h3 _ h:=.of (Ya8 h)
 h4 _:=rfl
 h5 _:=rfl
noncomputable def r1V:R1 V3:=r1A tV 3 fun _ h=>h
noncomputable def tP:Ty Pln where
 es:=4
 row x:=[i x.n.x,i x.n.y,i x.n.z,i x.b]
 rd r:=⟨⟨toI (hdA r),toI (hdA (tlA r)),toI (hdA (tlA (tlA r)))⟩,toI (hdA (tlA (tlA (tlA r))))⟩
 ok r:=Xa7 4 r
 cks:=List.replicate 4 (.int .i64)
 d:=⟨⟨0,0,0⟩,0⟩
 h0 _:=rfl
 h1 _:=rfl
 h2 _:=rfl
 h3 _ h:=.of (Ya8 h)
 h4 _:=rfl
 h5 _:=rfl
noncomputable def r1P:R1 Pln:=r1A tP 4 fun _ h=>h
noncomputable def tX:Ty Pt where
 es:=4
 row x:=[i x.px,i x.py,i x.pz,i x.pw]
 rd r:=⟨toI (hdA r),toI (hdA (tlA r)),toI (hdA (tlA (tlA r))),toI (hdA (tlA (tlA (tlA r))))⟩
 ok r:=Xa7 4 r
 cks:=List.replicate 4 (.int .i64)
 d:=⟨0,0,0,0⟩
 h0 _:=rfl
 h1 _:=rfl
 h2 _:=rfl
 h3 _ h:=.of (Ya8 h)
 h4 _:=rfl
 h5 _:=rfl
noncomputable def r1X:R1 Pt:=r1A tX 4 fun _ h=>h
structure Tp where
 p:Pln
 q:Pln
 r:Pln
noncomputable def tY:Ty Tp where
 es:=12
 row x:=[i x.p.n.x,i x.p.n.y,i x.p.n.z,i x.p.b,i x.q.n.x,i x.q.n.y,i x.q.n.z,i x.q.b,i x.r.n.x,i x.r.n.y,i x.r.n.z,i x.r.b]
 rd r:=⟨⟨⟨toI (hdA r),toI (hdA (tlA r)),toI (hdA (tlA (tlA r)))⟩,toI (hdA (tlA (tlA (tlA r))))⟩,⟨⟨toI (hdA (tlA (tlA (tlA (tlA r))))),toI (hdA (tlA (tlA (tlA (tlA (tlA r)))))),toI (hdA (tlA (tlA (tlA (tlA (tlA (tlA r)))))))⟩,toI (hdA (tlA (tlA (tlA (tlA (tlA (tlA (tlA r))))))))⟩,⟨⟨toI (hdA (tlA (tlA (tlA (tlA (tlA (tlA (tlA (tlA r))))))))),toI (hdA (tlA (tlA (tlA (tlA (tlA (tlA (tlA (tlA (tlA r)))))))))),toI (hdA (tlA (tlA (tlA (tlA (tlA (tlA (tlA (tlA (tlA (tlA r)))))))))))⟩,toI (hdA (tlA (tlA (tlA (tlA (tlA (tlA (tlA (tlA (tlA (tlA (tlA r))))))))))))⟩⟩
 ok r:=Xa7 12 r
 cks:=List.replicate 12 (.int .i64)
 d:=⟨⟨⟨0,0,0⟩,0⟩,⟨⟨0,0,0⟩,0⟩,⟨⟨0,0,0⟩,0⟩⟩
 h0 _:=rfl
 h1 _:=rfl
 h2 _:=rfl
 h3 _ h:=.of (Ya8 h)
 h4 _:=rfl
 h5 _:=rfl
structure Q2 where
 a:V3
 b:V3
end Go.Ev.Ce
section
namespace Go.Ev.Ce
open Go Go.Ev Go.Ev.L Go.Proofs
set_option maxRecDepth 100000
noncomputable def ee0:List (Nat×Sum):=[]
theorem Sd6:i4 prog G ee0:=trivial
noncomputable def ib0 (x:V3) (y:V3):Int:=(W ((W ((W (x.x*y.x))+(W (x.y*y.y))))+(W (x.z*y.z))))
noncomputable def Lc9:Sum:=Sa3 (ua9 tV) (ua9 tV) (fun x y=>.ret ((one r1I).enc (ib0 x y),[]))
theorem hd5:g8 prog G 130 Lc9:=bb3 (bd Gf1 Sd6) fun x y=>q8 (by kernel_rfl)
noncomputable def Gd2:List (Nat×Sum):=[]
theorem qd3:i4 prog G Gd2:=trivial
noncomputable def mb8 (x:V3) (y:V3):V3:=(⟨(W ((W (x.y*y.z)) - (W (x.z*y.y)))),(W ((W (x.z*y.x)) - (W (x.x*y.z)))),(W ((W (x.x*y.y)) - (W (x.y*y.x))))⟩:V3)
noncomputable def Sc6:Sum:=Sa3 (ua9 tV) (ua9 tV) (fun x y=>.ret ((one r1V).enc (mb8 x y),[]))
theorem Gd3:g8 prog G 186 Sc6:=bb3 (bd If6 qd3) fun x y=>q8 (by kernel_rfl)
structure Ee0 where
structure Ee1 where
 is0:Int
 is1:Int
structure lf0 where
 l0:List Pln
 e8:Int
 c7:Int
 f0:Int
 d9:Int
structure lf1 where
 is5:Int
structure Oe3 where
 Q0:List Pt
 e8:Int
 c7:Int
 f0:Int
 d9:Int
structure Oe4 where
 is5:Int
structure we6 where
 l0:List Pln
 is4:Int
 is5:Int
structure we7 where
 ph:Nat
 is6:Int
 ns3:Nat
 eh0:List (List b7)
structure we8 where
 is4:Int
structure we9 where
 ph:Nat
 l0:List Pln
 is5:Int
 ns3:Nat
 eh0:List (List b7)
structure xe0 where
structure xe1 where
 ph:Nat
 l0:List Pln
 is4:Int
 ns3:Nat
 eh0:List (List b7)
noncomputable def Kb8:List (Nat×Sum):=[]
theorem xc3:i4 prog G Kb8:=trivial
@[reducible] noncomputable def Qa0:Sum:=i9 (En Kb8) df5
theorem bb5:g8 prog G 166 Qa0:=bd Hf3 xc3
noncomputable def Vc2:List (Nat×Sum):=[]
theorem Mc0:i4 prog G Vc2:=trivial
noncomputable def Ma2 (x:Int):Option (b7×List b8):=(sl (decide (x < 0)) (some ((i (W (0 - x))),[])) (some ((i x),[])))
noncomputable def Ca5 (x:Int):Int:=aa3 (one r1I) (Ma2 x)
noncomputable def Ca6 (x:Int):Bool:=okO (one r1I) (Ma2 x)
noncomputable def jc6:Sum:=S5 cI (fun x=>.guard (Ca6 x) (.ret ((one r1I).enc (Ca5 x),[])))
theorem Vc3:g8 prog G 215 jc6:=Pa9 (bd Jf9 Mc0) (one r1I) (o:=Ma2) fun x=>q8 (by kernel_rfl)
noncomputable def Sc7:List (Nat×Sum):=[(215,jc6),(166,Qa0)]
theorem Gd4:i4 prog G Sc7:=⟨Vc3,bb5,trivial⟩
structure xa9 where
 is6:Int
 e8:Int
 c7:Int
 f0:Int
 qa4:Int
 qa5:Int
 qa6:Int
structure Y1 where
 is5:Int
 is7:Int
noncomputable def qd4 (p:xa9) (s:Y1):St:=⟨(.unk::((.ptr 0 0 0 0)::((.ptr 1 0 0 0)::(.unk::((.ptr 2 0 0 0)::((i s.is5)::((i p.is6)::((i s.is7)::(ra 38 []))))))))),[⟨0,3,[[(i p.e8),(i p.c7),(i p.f0)]],true,false,0⟩,⟨0,3,[[(i 0),(i 0),(i 0)]],true,false,0⟩,⟨0,3,[[(i p.qa4),(i p.qa5),(i p.qa6)]],true,false,0⟩]⟩
noncomputable def Ma3 {α:Type} (k:Y1→α) (e:Nat→α) (z:α) (p:xa9) (s:Y1):α:=(sl (decide (s.is7 > 0)) (sl (s.is7==0) z (k ⟨s.is7,(Int.tmod s.is5 s.is7)⟩)) (e 1))
noncomputable def qa7 (p:xa9) (s:Y1):Stp Y1:=Ma3 .next .exit .fail p s
noncomputable def Xb0:Lo xa9 Y1:=⟨En Sc7,0,df6,[1,1,1,0,1,4,4,1,0,4,1,1,4,4],[1,2,4,5,6,7],.p,[⟨((.s (.o .unk))::((.s (.o (.ptr 0 0 0 0)))::((.s (.o (.ptr 1 0 0 0)))::((.s (.o .unk))::((.s (.o (.ptr 2 0 0 0)))::((.s (.o (.int .i64)))::((.s (.o (.int .i64)))::((.s (.o (.int .i64)))::(ru2 38 []))))))))),[⟨0,3,true,(some [[(.o (.int .i64)),(.o (.int .i64)),(.o (.int .i64))]])⟩,⟨0,3,true,(some [[(.o (.lit .i64 0)),(.o (.lit .i64 0)),(.o (.lit .i64 0))]])⟩,⟨0,3,true,(some [[(.o (.int .i64)),(.o (.int .i64)),(.o (.int .i64))]])⟩],fun a H=>(⟨(toI (slT a 6)),(toI (slT (rwT (elT H 0) 0) 0)),(toI (slT (rwT (elT H 0) 0) 1)),(toI (slT (rwT (elT H 0) 0) 2)),(toI (slT (rwT (elT H 2) 0) 0)),(toI (slT (rwT (elT H 2) 0) 1)),(toI (slT (rwT (elT H 2) 0) 2))⟩,⟨(toI (slT a 5)),(toI (slT a 7))⟩)⟩],qa7,[(some 2,fun p s=>⟨(.unk::((.ptr 0 0 0 0)::((.ptr 1 0 0 0)::(.unk::((.ptr 2 0 0 0)::((i s.is5)::((i p.is6)::((i s.is7)::(ra 15 ((i s.is7)::((b (decide (s.is7 > 0)))::(ra 21 [])))))))))))),[⟨0,3,[[(i p.e8),(i p.c7),(i p.f0)]],true,false,0⟩,⟨0,3,[[(i 0),(i 0),(i 0)]],true,false,0⟩,⟨0,3,[[(i p.qa4),(i p.qa5),(i p.qa6)]],true,false,0⟩]⟩)],qd4⟩
theorem qd5:Xb0.Ok:=Lo.ok [] (by kernel_rfl) .nil rfl (.cons (fun a H=>by kernel_rfl) .nil) fun p s=>(.of @Ma3 (fun F _ _ _ _ _=>by unfold Ma3;(repeat' apply j5 (f:=F))<;>rfl) (by kernel_rfl))
noncomputable def Ab6 (x:V3):Option (b7×List b8):=let t1:=(Ca5 x.x);let t2:=(lp (qa7 (⟨0,x.x,x.y,x.z,x.x,x.y,x.z⟩:xa9)) (⟨0,t1⟩:Y1));let t3:=(Ca5 x.y);let t4:=(lp (qa7 (⟨1,x.x,x.y,x.z,x.x,x.y,x.z⟩:xa9)) (⟨t2.2.is5,t3⟩:Y1));let t5:=(Ca5 x.z);let t6:=(lp (qa7 (⟨2,x.x,x.y,x.z,x.x,x.y,x.z⟩:xa9)) (⟨t4.2.is5,t5⟩:Y1));(sl (x.x==(-9223372036854775808)) (some ((.tup [(.agg [(i 0),(i 0),(i 0)]),(i 0)]),[])) (sl (Ca6 x.x) (sl (Nat.beq t2.1 1) (sl (x.y==(-9223372036854775808)) (some ((.tup [(.agg [(i 0),(i 0),(i 0)]),(i 0)]),[])) (sl (Ca6 x.y) (sl (Nat.beq t4.1 1) (sl (x.z==(-9223372036854775808)) (some ((.tup [(.agg [(i 0),(i 0),(i 0)]),(i 0)]),[])) (sl (Ca6 x.z) (sl (Nat.beq t6.1 1) (sl (t6.2.is5==0) (some ((.tup [(.agg [(i 0),(i 0),(i 0)]),(i 0)]),[])) (sl (t6.2.is5==0) none (sl (t6.2.is5==0) none (sl (t6.2.is5==0) none (some ((.tup [(.agg [(i (W (Int.tdiv x.x t6.2.is5))),(i (W (Int.tdiv x.y t6.2.is5))),(i (W (Int.tdiv x.z t6.2.is5)))]),(i t6.2.is5)]),[])))))) none) none)) none) none)) none) none))
noncomputable def Xa9 (x:V3):V3×Int:=aa3 (two r1V r1I) (Ab6 x)
noncomputable def Ab7 (x:V3):Bool:=okO (two r1V r1I) (Ab6 x)
noncomputable def xc4:Sum:=S5 (ua9 tV) (fun x=>.guard (Ab7 x) (.ret ((two r1V r1I).enc (Xa9 x),[])))
theorem Sc8:g8 prog G 167 xc4:=Pa9 (bd Hf4 Gd4) (two r1V r1I) (o:=Ab6) fun x=>Ma1 (.s .p (.s .p (.s .p (.s (.s .p (.b (.l (.s .p (.s (.b (.s .p (.s .p (.b (.u Xb0.ls))))) .p))))) .p)))) [Xb0.pr] (by kernel_rfl) (.cons qd5 .nil) (by kernel_rfl)
noncomputable def Gd5:List (Nat×Sum):=[(167,xc4),(166,Qa0)]
theorem qd6:i4 prog G Gd5:=⟨Sc8,bb5,trivial⟩
noncomputable def mb9 (x:Pln):Option (b7×List b8):=let t1:=(Xa9 x.n);(sl (decide (x.n.x < (-4608))) (some ((b false),[])) (sl (decide (x.n.x > 4608)) (some ((b false),[])) (sl (decide (x.n.y < (-4608))) (some ((b false),[])) (sl (decide (x.n.y > 4608)) (some ((b false),[])) (sl (decide (x.n.z < (-4608))) (some ((b false),[])) (sl (decide (x.n.z > 4608)) (some ((b false),[])) (sl (Ab7 x.n) (sl (t1.2==1) (sl (decide (x.b≥(-2097152))) (some ((b (decide (x.b≤2097152))),[])) (some ((b false),[]))) (some ((b false),[]))) none)))))))
noncomputable def Kb9 (x:Pln):Bool:=aa3 (one r1B) (mb9 x)
noncomputable def Lb0 (x:Pln):Bool:=okO (one r1B) (mb9 x)
noncomputable def Sc9:Sum:=S5 (ua9 tP) (fun x=>.guard (Lb0 x) (.ret ((one r1B).enc (Kb9 x),[])))
theorem Gd6:g8 prog G 86 Sc9:=Pa9 (bd b86 qd6) (one r1B) (o:=mb9) fun x=>q8 (by kernel_rfl)
structure Oe5 where
 l0:List Pln
structure Oe6 where
 is3:Int
structure Ue3 where
 l0:List Pln
 Oe2:List Pt
 is4:Int
structure Ue4 where
 bs5:Bool
 is6:Int
structure Ue5 where
structure Ue6 where
 l0:List Pln
 Oe2:List Pt
 is4:Int
noncomputable def ee1:List (Nat×Sum):=[]
theorem Sd7:i4 prog G ee1:=trivial
noncomputable def Rb6 (x:Int) (y:Int):Option (b7×List b8):=(sl (decide (y < 1)) (some ((i 0),[])) (sl (y==0) none (sl (y==0) none (some ((i (Int.tmod (W ((Int.tmod x y)+y)) y)),[])))))
noncomputable def pc7 (x:Int) (y:Int):Int:=aa3 (one r1I) (Rb6 x y)
noncomputable def pc8 (x:Int) (y:Int):Bool:=okO (one r1I) (Rb6 x y)
noncomputable def zd8:Sum:=Sa3 cI cI (fun x y=>.guard (pc8 x y) (.ret ((one r1I).enc (pc7 x y),[])))
theorem ee2:g8 prog G 47 zd8:=rc6 (bd b47 Sd7) (one r1I) (o:=Rb6) fun x y=>q8 (by kernel_rfl)
structure Oe7 where
 Cf0:List Pt
structure Oe8 where
 is8:Int
 qa4:Int
 qa5:Int
 qa6:Int
 rc0:Int
 rc1:Int
 rc2:Int
end Go.Ev.Ce
end
section
namespace Go.Ev.Ce
open Go Go.Ev Go.Ev.L Go.Proofs
set_option maxRecDepth 100000
noncomputable def Gd7:List (Nat×Sum):=[]
theorem qd7:i4 prog G Gd7:=trivial
noncomputable def G5 (x:V3) (y:V3):Int:=(W ((W ((W (x.x*y.x))+(W (x.y*y.y))))+(W (x.z*y.z))))
noncomputable def Za0:Sum:=Sa3 (ua9 tV) (ua9 tV) (fun x y=>.ret ((one r1I).enc (G5 x y),[]))
theorem bb6:g8 prog G 129 Za0:=bb3 (bd Gf0 qd7) fun x y=>q8 (by kernel_rfl)
noncomputable def Gd8:List (Nat×Sum):=[]
theorem qd8:i4 prog G Gd8:=trivial
noncomputable def Ea8 (x:V3) (y:V3):V3:=(⟨(W (x.x+y.x)),(W (x.y+y.y)),(W (x.z+y.z))⟩:V3)
noncomputable def Tc0:Sum:=Sa3 (ua9 tV) (ua9 tV) (fun x y=>.ret ((one r1V).enc (Ea8 x y),[]))
theorem Gd9:g8 prog G 54 Tc0:=bb3 (bd b54 qd8) fun x y=>q8 (by kernel_rfl)
noncomputable def qd9:List (Nat×Sum):=[]
theorem hd6:i4 prog G qd9:=trivial
noncomputable def Y2 (x:V3) (y:Int):V3:=(⟨(W (x.x*y)),(W (x.y*y)),(W (x.z*y))⟩:V3)
noncomputable def Xb1:Sum:=Sa3 (ua9 tV) cI (fun x y=>.ret ((one r1V).enc (Y2 x y),[]))
theorem uc1:g8 prog G 94 Xb1:=bb3 (bd b94 hd6) fun x y=>q8 (by kernel_rfl)
noncomputable def hd7:List (Nat×Sum):=[]
theorem Vc4:i4 prog G hd7:=trivial
noncomputable def D4 (x:V3) (y:V3):V3:=(⟨(W ((W (x.y*y.z)) - (W (x.z*y.y)))),(W ((W (x.z*y.x)) - (W (x.x*y.z)))),(W ((W (x.x*y.y)) - (W (x.y*y.x))))⟩:V3)
noncomputable def lb1:Sum:=Sa3 (ua9 tV) (ua9 tV) (fun x y=>.ret ((one r1V).enc (D4 x y),[]))
theorem Ab8:g8 prog G 142 lb1:=bb3 (bd Gf6 Vc4) fun x y=>q8 (by kernel_rfl)
noncomputable def Hd0:List (Nat×Sum):=[(129,Za0)]
theorem rd0:i4 prog G Hd0:=⟨bb6,trivial⟩
noncomputable def Ea9 (x:Pln) (y:Pt):Int:=let t1:=(G5 x.n (⟨y.px,y.py,y.pz⟩:V3));(W ((W (x.b*y.pw)) - t1))
noncomputable def Lb1:Sum:=Sa3 (ua9 tP) (ua9 tX) (fun x y=>.ret ((one r1I).enc (Ea9 x y),[]))
theorem Xb2:g8 prog G 102 Lb1:=bb3 (bd Ef9 rd0) fun x y=>q8 (by kernel_rfl)
noncomputable def jc7:List (Nat×Sum):=[]
theorem Hd1:i4 prog G jc7:=trivial
structure Qa1 where
 Ba3:List Int
 is7:Int
 is8:Int
structure ya0 where
 is3:Int
 is5:Int
noncomputable def rd1 (p:Qa1) (s:ya0):St:=⟨(ra 3 ((i s.is3)::(.unk::((i s.is5)::((eL tI p.Ba3)::((i p.is7)::((i p.is8)::(ra 14 [])))))))),[]⟩
noncomputable def Ma4 {α:Type} (k:ya0→α) (e:Nat→α) (z:α) (p:Qa1) (s:ya0):α:=(sl (s.is5 != 0) (sl (s.is5==0) z (k ⟨s.is5,(Int.tmod s.is3 s.is5)⟩)) (e 1))
noncomputable def Ta4 (p:Qa1) (s:ya0):Stp ya0:=Ma4 .next .exit .fail p s
noncomputable def Xb3:Lo Qa1 ya0:=⟨En jc7,0,De8,[1,1,0,1,4,4,1,1,0,4,1,4,4],[3,5,6,7,8],.p,[⟨(ru2 3 ((.s (.o (.int .i64)))::((.s (.o .unk))::((.s (.o (.int .i64)))::((.s (.c 1 (nL tI)))::((.s (.o (.int .i64)))::((.s (.o (.int .i64)))::(ru2 14 [])))))))),[],fun a H=>(⟨(rL tI (slT a 6)),(toI (slT a 7)),(toI (slT a 8))⟩,⟨(toI (slT a 3)),(toI (slT a 5))⟩)⟩],Ta4,[(some 2,fun p s=>⟨(ra 3 ((i s.is3)::(.unk::((i s.is5)::((eL tI p.Ba3)::((i p.is7)::((i p.is8)::(ra 3 ((i s.is5)::((b (s.is5 != 0))::(ra 9 []))))))))))),[]⟩)],rd1⟩
theorem rd2:Xb3.Ok:=Lo.ok [] (by kernel_rfl) .nil rfl (.cons (fun a H=>by kernel_rfl) .nil) fun p s=>(.of @Ma4 (fun F _ _ _ _ _=>by unfold Ma4;(repeat' apply j5 (f:=F))<;>rfl) (by kernel_rfl))
structure bb7 where
 is7:Int
structure ya1 where
 is3:Int
 Ba3:List Int
 is8:Int
noncomputable def rd3 (p:bb7) (s:ya1):St:=⟨(ra 3 ((i s.is3)::(.unk::(.unk::((eL tI s.Ba3)::((i p.is7)::((i s.is8)::(ra 14 [])))))))),[]⟩
noncomputable def Ma5 {α:Type} (k:ya1→α) (e:Nat→α) (z:α) (p:bb7) (s:ya1):α:=let t1:=(lp (Ta4 (⟨(rt tI s.Ba3),p.is7,s.is8⟩:Qa1)) (⟨s.is3,(gL tI s.Ba3 s.is8.toNat)⟩:ya0));(sl (decide (s.is8 < p.is7)) (sl (inB s.is8 (List.length s.Ba3)) (sl ((cnE tI s.Ba3)&&true) (sl (Nat.beq t1.1 1) (k ⟨t1.2.is3,(rt tI s.Ba3),(W (s.is8+1))⟩) z) z) z) (e 1))
noncomputable def Ja4 (p:bb7) (s:ya1):Stp ya1:=Ma5 .next .exit .fail p s
noncomputable def Xb4:Lo bb7 ya1:=⟨En jc7,0,De8,[1,1,0,1,4,4],[3,6,7,8],(.s .p (.s .p (.s (.b (.s .p (.b (.u Xb3.ls)))) .p))),[⟨(ru2 3 ((.s (.o (.int .i64)))::((.s (.o .unk))::((.s (.o .unk))::((.s (.c 1 (nL tI)))::((.s (.o (.int .i64)))::((.s (.o (.int .i64)))::(ru2 14 [])))))))),[],fun a H=>(⟨(toI (slT a 7))⟩,⟨(toI (slT a 3)),(rL tI (slT a 6)),(toI (slT a 8))⟩)⟩],Ja4,[(some 0,fun p s=>⟨(ra 3 ((i s.is3)::(.unk::(.unk::((eL tI s.Ba3)::((i p.is7)::((i s.is8)::((b (decide (s.is8 < p.is7)))::(ra 13 []))))))))),[]⟩)],rd3⟩
theorem rd4:Xb4.Ok:=Lo.ok [Xb3.pr] (by kernel_rfl) (.cons rd2 .nil) rfl (.cons (fun a H=>by kernel_rfl) .nil) fun p s=>(.of @Ma5 (fun F _ _ _ _ _=>by unfold Ma5;(repeat' apply j5 (f:=F))<;>rfl) (by kernel_rfl))
noncomputable def Ab9 (x:List Int):Option (b7×List b8):=let t1:=(lp (Ja4 (⟨(↑(List.length x):Int)⟩:bb7)) (⟨0,(rt tI x),0⟩:ya1));(sl ((cnE tI x)&&true) (sl (Nat.beq t1.1 1) (some ((i (if (W (0 - t1.2.is3)) > t1.2.is3 then (W (0 - t1.2.is3)) else t1.2.is3)),[])) none) none)
noncomputable def Xb5 (x:List Int):Int:=aa3 (one r1I) (Ab9 x)
noncomputable def Xb6 (x:List Int):Bool:=okO (one r1I) (Ab9 x)
noncomputable def hd8:Sum:=S5 (Fa1 tI) (fun x=>.guard (Xb6 x) (.ret ((one r1I).enc (Xb5 x),[])))
theorem Sd8:g8 prog G 218 hd8:=Pa9 (bd Kf1 Hd1) (one r1I) (o:=Ab9) fun x=>Ma1 (.s .p (.s .p (.s (.s .p (.b (.u Xb4.ls))) .p))) [Xb4.pr] (by kernel_rfl) (.cons rd4 .nil) (by kernel_rfl)
noncomputable def Hd2:List (Nat×Sum):=[(142,lb1),(129,Za0),(94,Xb1),(54,Tc0),(218,hd8)]
theorem rd5:i4 prog G Hd2:=⟨Ab8,bb6,uc1,Gd9,Sd8,trivial⟩
noncomputable def nb0 (x:Tp):Option (b7×List b8):=let t1:=(D4 x.q.n x.r.n);let t3:=(Y2 t1 x.p.b);let t4:=(Ea8 (⟨0,0,0⟩:V3) t3);let t5:=(D4 x.r.n x.p.n);let t7:=(Y2 t5 x.q.b);let t8:=(Ea8 t4 t7);let t9:=(D4 x.p.n x.q.n);let t10:=(G5 x.r.n t9);let t11:=(Y2 t9 x.r.b);let t12:=(Ea8 t8 t11);let t13:=(Xb5 [t12.x,t12.y,t12.z,t10]);(sl (t10==0) (some ((.tup [(.agg [(i 0),(i 0),(i 0),(i 0)]),(b false)]),[])) (sl (Xb6 [t12.x,t12.y,t12.z,t10]) (sl (decide (t10 < 0)) (sl ((W (0 - t13))==0) none (sl ((W (0 - t13))==0) none (sl ((W (0 - t13))==0) none (sl ((W (0 - t13))==0) none (some ((.tup [(.agg [(i (W (Int.tdiv t12.x (W (0 - t13))))),(i (W (Int.tdiv t12.y (W (0 - t13))))),(i (W (Int.tdiv t12.z (W (0 - t13))))),(i (W (Int.tdiv t10 (W (0 - t13)))))]),(b true)]),[])))))) (sl (t13==0) none (sl (t13==0) none (sl (t13==0) none (sl (t13==0) none (some ((.tup [(.agg [(i (W (Int.tdiv t12.x t13))),(i (W (Int.tdiv t12.y t13))),(i (W (Int.tdiv t12.z t13))),(i (W (Int.tdiv t10 t13)))]),(b true)]),[]))))))) none))
noncomputable def nb1 (x:Tp):Pt×Bool:=aa3 (two r1X r1B) (nb0 x)
noncomputable def nb2 (x:Tp):Bool:=okO (two r1X r1B) (nb0 x)
noncomputable def Tc1:Sum:=S5 (ua9 tY) (fun x=>.guard (nb2 x) (.ret ((two r1X r1B).enc (nb1 x),[])))
theorem Hd3:g8 prog G 171 Tc1:=Pa9 (bd Hf8 rd5) (two r1X r1B) (o:=nb0) fun x=>q8 (by kernel_rfl)
structure Wa1 where
 va0:Int
 va1:Int
 va2:Int
 pb4:Int
 e8:Int
 c7:Int
 f0:Int
 d9:Int
noncomputable def Mc1:List (Nat×Sum):=[(102,Lb1)]
theorem Dc8:i4 prog G Mc1:=⟨Xb2,trivial⟩
structure Ha1 where
 bs0:Bool
noncomputable def Ha2 {α:Type} (kk:Ha1→α) (x:Wa1):α:=let t1:=(Ea9 (⟨(⟨x.va0,x.va1,x.va2⟩:V3),x.pb4⟩:Pln) (⟨x.e8,x.c7,x.f0,x.d9⟩:Pt));(kk ⟨(decide (t1 < 0))⟩)
noncomputable def qb0 (x:Wa1):Ha1:=Ha2 (fun r=>r) x
noncomputable def ib1 (x:Wa1) (r:Ha1):DT (b7×List b8):=.ret ((b r.bs0),[⟨0,4,[[(i x.e8),(i x.c7),(i x.f0),(i x.d9)]],true,false,0⟩])
theorem Vc5 {α β:Type} (F:α→β) (kk:Ha1→α) (x:Wa1):F (Ha2 kk x)=Ha2 (fun r=>F (kk r)) x:=by unfold Ha2;(repeat' apply j5 (f:=F))<;>rfl
noncomputable def bc7:Sum:=za8 ⟨[(.agg [(.o (.int .i64)),(.o (.int .i64)),(.o (.int .i64)),(.o (.int .i64))]),(.s (.o (.ptr 0 0 0 0)))],[⟨0,4,true,(some [[(.o (.int .i64)),(.o (.int .i64)),(.o (.int .i64)),(.o (.int .i64))]])⟩],fun a H=>(⟨(toI (slT (cellsOf (slT a 0)) 0)),(toI (slT (cellsOf (slT a 0)) 1)),(toI (slT (cellsOf (slT a 0)) 2)),(toI (slT (cellsOf (slT a 0)) 3)),(toI (slT (rwT (elT H 0) 0) 0)),(toI (slT (rwT (elT H 0) 0) 1)),(toI (slT (rwT (elT H 0) 0) 2)),(toI (slT (rwT (elT H 0) 0) 3))⟩,())⟩ (fun x=>ib1 x (qb0 x))
theorem Mc2:g8 prog G 181 bc7:=w7 (enc:=fun x=>⟨[(.agg [(i x.va0),(i x.va1),(i x.va2),(i x.pb4)]),(.ptr 0 0 0 0)],[⟨0,4,[[(i x.e8),(i x.c7),(i x.f0),(i x.d9)]],true,false,0⟩]⟩) (fun a H=>by kernel_rfl) (bd If5 Dc8) fun x=>q8 (Eq.trans (b:=Ha2 (fun r=>(ib1 x r).run) x) (by kernel_rfl) (Vc5 (fun r=>(ib1 x r).run) (fun r=>r) x).symm)
structure aa9 where
 l0:List Pln
 e8:Int
 c7:Int
 f0:Int
 d9:Int
noncomputable def Ma6:List (Nat×Sum):=[(181,bc7)]
theorem ub9:i4 prog G Ma6:=⟨Mc2,trivial⟩
structure L8 where
 l0:List Pln
 is7:Int
 e8:Int
 c7:Int
 f0:Int
 d9:Int
structure o2 where
 is8:Int
noncomputable def qb1 (p:L8) (s:o2):St:=⟨((eL tP p.l0)::((.fn 181 [(.ptr 0 0 0 0)])::(ra 5 ((i p.is7)::((i s.is8)::(ra 10 [])))))),[⟨0,4,[[(i p.e8),(i p.c7),(i p.f0),(i p.d9)]],true,false,0⟩]⟩
noncomputable def G6 {α:Type} (k:o2→α) (e:Nat→α) (z:α) (p:L8) (s:o2):α:=let t1:=(qb0 ⟨(gL tP p.l0 s.is8.toNat).n.x,(gL tP p.l0 s.is8.toNat).n.y,(gL tP p.l0 s.is8.toNat).n.z,(gL tP p.l0 s.is8.toNat).b,p.e8,p.c7,p.f0,p.d9⟩);(sl (decide (s.is8 < p.is7)) (sl (inB s.is8 (List.length p.l0)) (sl t1.bs0 (e 1) (k ⟨(W (s.is8+1))⟩)) z) (e 2))
noncomputable def K0 (p:L8) (s:o2):Stp o2:=G6 .next .exit .fail p s
noncomputable def na6:Lo L8 o2:=⟨En Ma6,1,zd7,[1,0,1,4,4],[0,1,7,8],.p,[⟨((.s (.c 4 (nL tP)))::((.fn 181 [(.o (.ptr 0 0 0 0))])::(ru2 5 ((.s (.o (.int .i64)))::((.s (.o (.int .i64)))::(ru2 10 [])))))),[⟨0,4,true,(some [[(.o (.int .i64)),(.o (.int .i64)),(.o (.int .i64)),(.o (.int .i64))]])⟩],fun a H=>(⟨(rL tP (slT a 0)),(toI (slT a 7)),(toI (slT (rwT (elT H 0) 0) 0)),(toI (slT (rwT (elT H 0) 0) 1)),(toI (slT (rwT (elT H 0) 0) 2)),(toI (slT (rwT (elT H 0) 0) 3))⟩,⟨(toI (slT a 8))⟩)⟩],K0,[(none,fun p s=>⟨[(i s.is8)],[⟨0,4,[[(i p.e8),(i p.c7),(i p.f0),(i p.d9)]],true,false,0⟩]⟩),(some 0,fun p s=>⟨((eL tP p.l0)::((.fn 181 [(.ptr 0 0 0 0)])::(ra 5 ((i p.is7)::((i s.is8)::((b (decide (s.is8 < p.is7)))::(ra 9 []))))))),[⟨0,4,[[(i p.e8),(i p.c7),(i p.f0),(i p.d9)]],true,false,0⟩]⟩)],qb1⟩
theorem qb2:na6.Ok:=Lo.ok [] (by kernel_rfl) .nil rfl (.cons (fun a H=>by kernel_rfl) .nil) fun p s=>(.of @G6 (fun F _ _ _ _ _=>by unfold G6;(repeat' apply j5 (f:=F))<;>rfl) (by kernel_rfl))
structure ba0 where
 alt:Nat
 is0:Int
noncomputable def H8 {α:Type} (kk:ba0→α) (x:aa9):α:=let t1:=(lp (K0 (⟨(rt tP x.l0),(↑(List.length x.l0):Int),x.e8,x.c7,x.f0,x.d9⟩:L8)) (⟨0⟩:o2));(sl ((cnE tP x.l0)&&true) (sl (Nat.beq t1.1 1) (kk ⟨1,t1.2.is8⟩) (sl (Nat.beq t1.1 2) (kk ⟨1,(-1)⟩) (kk ⟨0,0⟩))) (kk ⟨0,0⟩))
noncomputable def ba1 (x:aa9):ba0:=H8 (fun r=>r) x
noncomputable def sa2 (x:aa9) (r:ba0):DT (b7×List b8):=(.ite (Nat.beq r.alt 1) (.ret ((i r.is0),[⟨0,4,[[(i x.e8),(i x.c7),(i x.f0),(i x.d9)]],true,false,0⟩])) .fail)
theorem Gb5 {α β:Type} (F:α→β) (kk:ba0→α) (x:aa9):F (H8 kk x)=H8 (fun r=>F (kk r)) x:=by unfold H8;(repeat' apply j5 (f:=F))<;>rfl
noncomputable def Ra1:Sum:=za8 ⟨[(.s (.c 4 (nL tP))),(.fn 181 [(.o (.ptr 0 0 0 0))])],[⟨0,4,true,(some [[(.o (.int .i64)),(.o (.int .i64)),(.o (.int .i64)),(.o (.int .i64))]])⟩],fun a H=>(⟨(rL tP (slT a 0)),(toI (slT (rwT (elT H 0) 0) 0)),(toI (slT (rwT (elT H 0) 0) 1)),(toI (slT (rwT (elT H 0) 0) 2)),(toI (slT (rwT (elT H 0) 0) 3))⟩,())⟩ (fun x=>sa2 x (ba1 x))
theorem Bb0:g8 prog G 163 Ra1:=w7 (enc:=fun x=>⟨[(eL tP x.l0),(.fn 181 [(.ptr 0 0 0 0)])],[⟨0,4,[[(i x.e8),(i x.c7),(i x.f0),(i x.d9)]],true,false,0⟩]⟩) (fun a H=>by kernel_rfl) (bd De9 ub9) fun x=>Ma1 (.s .p (.s (.s .p (.b (.u na6.ls))) .p)) [na6.pr] (by kernel_rfl) (.cons qb2 .nil) (Eq.trans (b:=H8 (fun r=>(sa2 x r).run) x) (by kernel_rfl) (Gb5 (fun r=>(sa2 x r).run) (fun r=>r) x).symm)
structure T8 where
 l0:List Pln
 e8:Int
 c7:Int
 f0:Int
 d9:Int
noncomputable def nb3:List (Nat×Sum):=[(163,Ra1)]
theorem ib2:i4 prog G nb3:=⟨Bb0,trivial⟩
structure T9 where
 alt:Nat
 bs0:Bool
noncomputable def C3 {α:Type} (kk:T9→α) (x:T8):α:=let t1:=(ba1 ⟨(rt tP x.l0),x.e8,x.c7,x.f0,x.d9⟩);(sl ((cnE tP x.l0)&&true) (sl (Nat.beq t1.alt 1) (kk ⟨1,(decide (t1.is0≥0))⟩) (kk ⟨0,false⟩)) (kk ⟨0,false⟩))
noncomputable def la3 (x:T8):T9:=C3 (fun r=>r) x
noncomputable def ga4 (x:T8) (r:T9):DT (b7×List b8):=(.ite (Nat.beq r.alt 1) (.ret ((b r.bs0),[⟨0,4,[[(i x.e8),(i x.c7),(i x.f0),(i x.d9)]],true,false,0⟩])) .fail)
theorem qb3 {α β:Type} (F:α→β) (kk:T9→α) (x:T8):F (C3 kk x)=C3 (fun r=>F (kk r)) x:=by unfold C3;(repeat' apply j5 (f:=F))<;>rfl
noncomputable def Ha3:Sum:=za8 ⟨[(.s (.c 4 (nL tP))),(.fn 181 [(.o (.ptr 0 0 0 0))])],[⟨0,4,true,(some [[(.o (.int .i64)),(.o (.int .i64)),(.o (.int .i64)),(.o (.int .i64))]])⟩],fun a H=>(⟨(rL tP (slT a 0)),(toI (slT (rwT (elT H 0) 0) 0)),(toI (slT (rwT (elT H 0) 0) 1)),(toI (slT (rwT (elT H 0) 0) 2)),(toI (slT (rwT (elT H 0) 0) 3))⟩,())⟩ (fun x=>ga4 x (la3 x))
theorem nb4:g8 prog G 83 Ha3:=w7 (enc:=fun x=>⟨[(eL tP x.l0),(.fn 181 [(.ptr 0 0 0 0)])],[⟨0,4,[[(i x.e8),(i x.c7),(i x.f0),(i x.d9)]],true,false,0⟩]⟩) (fun a H=>by kernel_rfl) (bd b83 ib2) fun x=>q8 (Eq.trans (b:=C3 (fun r=>(ga4 x r).run) x) (by kernel_rfl) (qb3 (fun r=>(ga4 x r).run) (fun r=>r) x).symm)
noncomputable def hd9:List (Nat×Sum):=[(83,Ha3)]
theorem Vc6:i4 prog G hd9:=⟨nb4,trivial⟩
noncomputable def Ta5 (x:List Pln) (y:Pt):Option (b7×List b8):=let t1:=(la3 ⟨(rt tP x),y.px,y.py,y.pz,y.pw⟩);(sl ((cnE tP x)&&true) (sl (Nat.beq t1.alt 1) (some ((b (!t1.bs0)),[])) none) none)
noncomputable def fa5 (x:List Pln) (y:Pt):Bool:=aa3 (one r1B) (Ta5 x y)
noncomputable def fa6 (x:List Pln) (y:Pt):Bool:=okO (one r1B) (Ta5 x y)
noncomputable def lb2:Sum:=Sa3 (Fa1 tP) (ua9 tX) (fun x y=>.guard (fa6 x y) (.ret ((one r1B).enc (fa5 x y),[])))
theorem Bb1:g8 prog G 108 lb2:=rc6 (bd Ff3 Vc6) (one r1B) (o:=Ta5) fun x y=>q8 (by kernel_rfl)
noncomputable def Ta6:List (Nat×Sum):=[]
theorem Gb6:i4 prog G Ta6:=trivial
@[reducible] noncomputable def Za1:Sum:=i9 (En Ta6) ef1
theorem Nb5:g8 prog G 217 Za1:=bd Kf0 Gb6
noncomputable def bb8:List (Nat×Sum):=[(217,Za1)]
theorem Rb7:i4 prog G bb8:=⟨Nb5,trivial⟩
@[reducible] noncomputable def gb1:Sum:=i9 (En bb8) df7
theorem Xb7:g8 prog G 170 gb1:=bd Hf7 Rb7
noncomputable def na7:List (Nat×Sum):=[(171,Tc1),(108,lb2),(170,gb1)]
theorem Rb8:i4 prog G na7:=⟨Hd3,Bb1,Xb7,trivial⟩
structure i6 where
 is3:Int
 X7:List Pln
 o9:Int
 fa1:Int
 Jc2:Nat
 yb4:Nat→List b7
 ua3:Int
 Ea5:Int
 he5:Nat
 ub0:Nat→List b7
 Md0:Int
 d7:List Pln
 J4:Int
 J5:Int
 J6:Int
 da0:Int
 qa4:Int
 qa5:Int
 qa6:Int
 yb5:Int
 Ea6:List Pln
structure i7 where
 ph:Nat
 Ja0:Int
 mb3:Nat
 eh6:List (List b7)
 eh7:List (List b7)
noncomputable def Gb7 (p:i6) (s:i7):St:=⟨(.unk::((.ptr 0 0 0 0)::(.unk::((i p.is3)::((.ptr 1 0 0 0)::(.unk::((.ptr 2 0 0 0)::(.unk::(.unk::((eL tP p.X7)::((i p.o9)::((i p.fa1)::(ra 7 ((.tree 4 p.Jc2 p.yb4)::((i p.ua3)::((i p.Ea5)::(ra 9 ((.tree 4 p.he5 p.ub0)::((i p.Md0)::((i s.Ja0)::(ra 13 ((i 0)::(.unk::((.ptr 3 0 0 0)::((.v (.slice none 0 0))::((.ptr 4 0 0 0)::((.ptr 5 0 0 0)::(ra 31 [])))))))))))))))))))))))))))),[⟨0,1,[[(eL tP p.d7)]],true,false,0⟩,⟨0,4,[[(i p.J4),(i p.J5),(i p.J6),(i p.da0)]],true,false,0⟩,⟨0,4,[[(i p.qa4),(i p.qa5),(i p.qa6),(i p.yb5)]],true,false,0⟩,⟨0,1,[[(eL tP p.Ea6)]],true,false,0⟩,⟨0,0,[[(.v (.slice none 0 0))]],true,false,0⟩,⟨0,0,[[(.ptr 6 0 0 0)]],true,false,0⟩,⟨174,0,[],true,false,0⟩]⟩
noncomputable def Gb8 (p:i6) (s:i7):St:=⟨(.unk::((.ptr 0 0 0 0)::(.unk::((i p.is3)::((.ptr 1 0 0 0)::(.unk::((.ptr 2 0 0 0)::(.unk::(.unk::((eL tP p.X7)::((i p.o9)::((i p.fa1)::(ra 7 ((.tree 4 p.Jc2 p.yb4)::((i p.ua3)::((i p.Ea5)::(ra 9 ((.tree 4 p.he5 p.ub0)::((i p.Md0)::((i s.Ja0)::(ra 13 ((i 0)::(.unk::((.ptr 3 0 0 0)::((.v (.slice none 0 0))::((.ptr 4 0 0 0)::((.ptr 5 0 0 0)::(ra 31 [])))))))))))))))))))))))))))),[⟨0,1,[[(eL tP p.d7)]],true,false,0⟩,⟨0,4,[[(i p.J4),(i p.J5),(i p.J6),(i p.da0)]],true,false,0⟩,⟨0,4,[[(i p.qa4),(i p.qa5),(i p.qa6),(i p.yb5)]],true,false,0⟩,⟨0,1,[[(eL tP p.Ea6)]],true,false,0⟩,⟨0,0,[[(.sl 6 0 s.mb3 0)]],true,false,0⟩,⟨0,0,[[(.ptr 7 0 0 0)]],true,false,0⟩,⟨54,4,s.eh6,true,false,0⟩,⟨174,0,s.eh7,true,false,0⟩]⟩
noncomputable def Nb6 (p:i6) (s:i7):St:=(sel (Nat.beq s.ph 1) (Gb8 p s) (Gb7 p s))
noncomputable def B1 {α:Type} (k:i7→α) (e:Nat→α) (z:α) (p:i6) (s:i7):α:=let t1:=(nb1 (⟨(⟨(⟨p.J4,p.J5,p.J6⟩:V3),p.da0⟩:Pln),(⟨(⟨p.qa4,p.qa5,p.qa6⟩:V3),p.yb5⟩:Pln),(⟨(⟨(toI (hdA (p.ub0 s.Ja0.toNat))),(toI (hdA (tlA (p.ub0 s.Ja0.toNat)))),(toI (hdA (tlA (tlA (p.ub0 s.Ja0.toNat)))))⟩:V3),(toI (hdA (tlA (tlA (tlA (p.ub0 s.Ja0.toNat))))))⟩:Pln)⟩:Tp));let t2:=(fa5 (rt tP p.Ea6) t1.1);(sl (decide (s.Ja0 < p.Md0)) (sl (inB s.Ja0 p.he5) (sl ((Nat.ble 4 (len (p.ub0 s.Ja0.toNat)))&&(ia5 [(CK.int .i64),(CK.int .i64),(CK.int .i64),(CK.int .i64)] (p.ub0 s.Ja0.toNat))) (sl (nb2 (⟨(⟨(⟨p.J4,p.J5,p.J6⟩:V3),p.da0⟩:Pln),(⟨(⟨p.qa4,p.qa5,p.qa6⟩:V3),p.yb5⟩:Pln),(⟨(⟨(toI (hdA (p.ub0 s.Ja0.toNat))),(toI (hdA (tlA (p.ub0 s.Ja0.toNat)))),(toI (hdA (tlA (tlA (p.ub0 s.Ja0.toNat)))))⟩:V3),(toI (hdA (tlA (tlA (tlA (p.ub0 s.Ja0.toNat))))))⟩:Pln)⟩:Tp)) (sl t1.2 (sl (!(ab7 4 [(0,(.int .i64)),(1,(.int .i64)),(2,(.int .i64)),(3,(.int .i64))] [(i t1.1.px),(i t1.1.py),(i t1.1.pz),(i t1.1.pw)] [])) (sl (okE tP p.Ea6) (sl (fa6 (rt tP p.Ea6) t1.1) (sl t2 (k ⟨1,(W (s.Ja0+1)),1,[[(i t1.1.px),(i t1.1.py),(i t1.1.pz),(i t1.1.pw)]],(ia2 [(0,(.int .i64)),(1,(.int .i64)),(2,(.int .i64)),(3,(.int .i64))] [(i t1.1.px),(i t1.1.py),(i t1.1.pz),(i t1.1.pw)] [(i t1.1.px),(i t1.1.py),(i t1.1.pz),(i t1.1.pw),(b true)] [])⟩) (k ⟨0,(W (s.Ja0+1)),0,[],[]⟩)) z) z) (k ⟨0,(W (s.Ja0+1)),0,[],[]⟩)) (k ⟨0,(W (s.Ja0+1)),0,[],[]⟩)) z) z) z) (e 1))
noncomputable def B3 {α:Type} (k:i7→α) (e:Nat→α) (z:α) (p:i6) (s:i7):α:=let t1:=(nb1 (⟨(⟨(⟨p.J4,p.J5,p.J6⟩:V3),p.da0⟩:Pln),(⟨(⟨p.qa4,p.qa5,p.qa6⟩:V3),p.yb5⟩:Pln),(⟨(⟨(toI (hdA (p.ub0 s.Ja0.toNat))),(toI (hdA (tlA (p.ub0 s.Ja0.toNat)))),(toI (hdA (tlA (tlA (p.ub0 s.Ja0.toNat)))))⟩:V3),(toI (hdA (tlA (tlA (tlA (p.ub0 s.Ja0.toNat))))))⟩:Pln)⟩:Tp));let t2:=(fa5 (rt tP p.Ea6) t1.1);(sl (decide (s.Ja0 < p.Md0)) (sl (inB s.Ja0 p.he5) (sl ((Nat.ble 4 (len (p.ub0 s.Ja0.toNat)))&&(ia5 [(CK.int .i64),(CK.int .i64),(CK.int .i64),(CK.int .i64)] (p.ub0 s.Ja0.toNat))) (sl (nb2 (⟨(⟨(⟨p.J4,p.J5,p.J6⟩:V3),p.da0⟩:Pln),(⟨(⟨p.qa4,p.qa5,p.qa6⟩:V3),p.yb5⟩:Pln),(⟨(⟨(toI (hdA (p.ub0 s.Ja0.toNat))),(toI (hdA (tlA (p.ub0 s.Ja0.toNat)))),(toI (hdA (tlA (tlA (p.ub0 s.Ja0.toNat)))))⟩:V3),(toI (hdA (tlA (tlA (tlA (p.ub0 s.Ja0.toNat))))))⟩:Pln)⟩:Tp)) (sl t1.2 (sl (!(ab7 4 [(0,(.int .i64)),(1,(.int .i64)),(2,(.int .i64)),(3,(.int .i64))] [(i t1.1.px),(i t1.1.py),(i t1.1.pz),(i t1.1.pw)] s.eh7)) (sl (okE tP p.Ea6) (sl (fa6 (rt tP p.Ea6) t1.1) (sl t2 (sl (Nat.beq s.mb3 (len s.eh6)&&Nat.ble ((s.mb3+1)*32) room) (k ⟨1,(W (s.Ja0+1)),(s.mb3+1),(app s.eh6 [[(i t1.1.px),(i t1.1.py),(i t1.1.pz),(i t1.1.pw)]]),(ia2 [(0,(.int .i64)),(1,(.int .i64)),(2,(.int .i64)),(3,(.int .i64))] [(i t1.1.px),(i t1.1.py),(i t1.1.pz),(i t1.1.pw)] [(i t1.1.px),(i t1.1.py),(i t1.1.pz),(i t1.1.pw),(b true)] s.eh7)⟩) z) (k ⟨1,(W (s.Ja0+1)),s.mb3,s.eh6,s.eh7⟩)) z) z) (k ⟨1,(W (s.Ja0+1)),s.mb3,s.eh6,s.eh7⟩)) (k ⟨1,(W (s.Ja0+1)),s.mb3,s.eh6,s.eh7⟩)) z) z) z) (e 2))
noncomputable def A1 (p:i6) (s:i7):Stp i7:=(sel (Nat.beq s.ph 1) (B3 .next .exit .fail p s) (B1 .next .exit .fail p s))
noncomputable def Ca7:Lo i6 i7:=⟨En na7,0,Ue1,[1,1,1,0,1,4,4,1,4,4,1,1,0,4,1,1,4,4,1,1,0,4,1,1,4,4],[1,3,4,6,9,10,11,19,20,21,31,32,33,47,49,50,51,52],.p,[⟨((.s (.o .unk))::((.s (.o (.ptr 0 0 0 0)))::((.s (.o .unk))::((.s (.o (.int .i64)))::((.s (.o (.ptr 1 0 0 0)))::((.s (.o .unk))::((.s (.o (.ptr 2 0 0 0)))::((.s (.o .unk))::((.s (.o .unk))::((.s (.c 4 (nL tP)))::((.s (.o (.int .i64)))::((.s (.o (.int .i64)))::(ru2 7 ((.s (.o (.tree 4)))::((.s (.o (.int .i64)))::((.s (.o (.int .i64)))::(ru2 9 ((.s (.o (.tree 4)))::((.s (.o (.int .i64)))::((.s (.o (.int .i64)))::(ru2 13 ((.s (.o (.lit .i64 0)))::((.s (.o .unk))::((.s (.o (.ptr 3 0 0 0)))::((.s (.o .nil))::((.s (.o (.ptr 4 0 0 0)))::((.s (.o (.ptr 5 0 0 0)))::(ru2 31 [])))))))))))))))))))))))))))),[⟨0,1,true,(some [[(.c 4 (nL tP))]])⟩,⟨0,4,true,(some [[(.o (.int .i64)),(.o (.int .i64)),(.o (.int .i64)),(.o (.int .i64))]])⟩,⟨0,4,true,(some [[(.o (.int .i64)),(.o (.int .i64)),(.o (.int .i64)),(.o (.int .i64))]])⟩,⟨0,1,true,(some [[(.c 4 (nL tP))]])⟩,⟨0,0,true,(some [[(.o .nil)]])⟩,⟨0,0,true,(some [[(.o (.ptr 6 0 0 0))]])⟩,⟨174,0,true,(some [])⟩],fun a H=>(⟨(toI (slT a 3)),(rL tP (slT a 9)),(toI (slT a 10)),(toI (slT a 11)),(toN (slT a 19)),(toG (slT a 19)),(toI (slT a 20)),(toI (slT a 21)),(toN (slT a 31)),(toG (slT a 31)),(toI (slT a 32)),(rL tP (slT (rwT (elT H 0) 0) 0)),(toI (slT (rwT (elT H 1) 0) 0)),(toI (slT (rwT (elT H 1) 0) 1)),(toI (slT (rwT (elT H 1) 0) 2)),(toI (slT (rwT (elT H 1) 0) 3)),(toI (slT (rwT (elT H 2) 0) 0)),(toI (slT (rwT (elT H 2) 0) 1)),(toI (slT (rwT (elT H 2) 0) 2)),(toI (slT (rwT (elT H 2) 0) 3)),(rL tP (slT (rwT (elT H 3) 0) 0))⟩,⟨0,(toI (slT a 33)),0,[],[]⟩)⟩,⟨((.s (.o .unk))::((.s (.o (.ptr 0 0 0 0)))::((.s (.o .unk))::((.s (.o (.int .i64)))::((.s (.o (.ptr 1 0 0 0)))::((.s (.o .unk))::((.s (.o (.ptr 2 0 0 0)))::((.s (.o .unk))::((.s (.o .unk))::((.s (.c 4 (nL tP)))::((.s (.o (.int .i64)))::((.s (.o (.int .i64)))::(ru2 7 ((.s (.o (.tree 4)))::((.s (.o (.int .i64)))::((.s (.o (.int .i64)))::(ru2 9 ((.s (.o (.tree 4)))::((.s (.o (.int .i64)))::((.s (.o (.int .i64)))::(ru2 13 ((.s (.o (.lit .i64 0)))::((.s (.o .unk))::((.s (.o (.ptr 3 0 0 0)))::((.s (.o .nil))::((.s (.o (.ptr 4 0 0 0)))::((.s (.o (.ptr 5 0 0 0)))::(ru2 31 [])))))))))))))))))))))))))))),[⟨0,1,true,(some [[(.c 4 (nL tP))]])⟩,⟨0,4,true,(some [[(.o (.int .i64)),(.o (.int .i64)),(.o (.int .i64)),(.o (.int .i64))]])⟩,⟨0,4,true,(some [[(.o (.int .i64)),(.o (.int .i64)),(.o (.int .i64)),(.o (.int .i64))]])⟩,⟨0,1,true,(some [[(.c 4 (nL tP))]])⟩,⟨0,0,true,(some [[(.o (.sl 6 0 (some 0) none))]])⟩,⟨0,0,true,(some [[(.o (.ptr 7 0 0 0))]])⟩,⟨54,4,true,none⟩,⟨174,0,true,none⟩],fun a H=>(⟨(toI (slT a 3)),(rL tP (slT a 9)),(toI (slT a 10)),(toI (slT a 11)),(toN (slT a 19)),(toG (slT a 19)),(toI (slT a 20)),(toI (slT a 21)),(toN (slT a 31)),(toG (slT a 31)),(toI (slT a 32)),(rL tP (slT (rwT (elT H 0) 0) 0)),(toI (slT (rwT (elT H 1) 0) 0)),(toI (slT (rwT (elT H 1) 0) 1)),(toI (slT (rwT (elT H 1) 0) 2)),(toI (slT (rwT (elT H 1) 0) 3)),(toI (slT (rwT (elT H 2) 0) 0)),(toI (slT (rwT (elT H 2) 0) 1)),(toI (slT (rwT (elT H 2) 0) 2)),(toI (slT (rwT (elT H 2) 0) 3)),(rL tP (slT (rwT (elT H 3) 0) 0))⟩,⟨1,(toI (slT a 33)),(slN (slT (rwT (elT H 4) 0) 0)),(elT H 6),(elT H 7)⟩)⟩],A1,[(some 4,fun p s=>⟨(.unk::((.ptr 0 0 0 0)::(.unk::((i p.is3)::((.ptr 1 0 0 0)::(.unk::((.ptr 2 0 0 0)::(.unk::(.unk::((eL tP p.X7)::((i p.o9)::((i p.fa1)::(ra 7 ((.tree 4 p.Jc2 p.yb4)::((i p.ua3)::((i p.Ea5)::(ra 9 ((.tree 4 p.he5 p.ub0)::((i p.Md0)::((i s.Ja0)::((b (decide (s.Ja0 < p.Md0)))::(ra 12 ((i 0)::(.unk::((.ptr 3 0 0 0)::((.v (.slice none 0 0))::((.ptr 4 0 0 0)::((.ptr 5 0 0 0)::(ra 31 []))))))))))))))))))))))))))))),[⟨0,1,[[(eL tP p.d7)]],true,false,0⟩,⟨0,4,[[(i p.J4),(i p.J5),(i p.J6),(i p.da0)]],true,false,0⟩,⟨0,4,[[(i p.qa4),(i p.qa5),(i p.qa6),(i p.yb5)]],true,false,0⟩,⟨0,1,[[(eL tP p.Ea6)]],true,false,0⟩,⟨0,0,[[(.v (.slice none 0 0))]],true,false,0⟩,⟨0,0,[[(.ptr 6 0 0 0)]],true,false,0⟩,⟨174,0,[],true,false,0⟩]⟩),(some 4,fun p s=>⟨(.unk::((.ptr 0 0 0 0)::(.unk::((i p.is3)::((.ptr 1 0 0 0)::(.unk::((.ptr 2 0 0 0)::(.unk::(.unk::((eL tP p.X7)::((i p.o9)::((i p.fa1)::(ra 7 ((.tree 4 p.Jc2 p.yb4)::((i p.ua3)::((i p.Ea5)::(ra 9 ((.tree 4 p.he5 p.ub0)::((i p.Md0)::((i s.Ja0)::((b (decide (s.Ja0 < p.Md0)))::(ra 12 ((i 0)::(.unk::((.ptr 3 0 0 0)::((.v (.slice none 0 0))::((.ptr 4 0 0 0)::((.ptr 5 0 0 0)::(ra 31 []))))))))))))))))))))))))))))),[⟨0,1,[[(eL tP p.d7)]],true,false,0⟩,⟨0,4,[[(i p.J4),(i p.J5),(i p.J6),(i p.da0)]],true,false,0⟩,⟨0,4,[[(i p.qa4),(i p.qa5),(i p.qa6),(i p.yb5)]],true,false,0⟩,⟨0,1,[[(eL tP p.Ea6)]],true,false,0⟩,⟨0,0,[[(.sl 6 0 s.mb3 0)]],true,false,0⟩,⟨0,0,[[(.ptr 7 0 0 0)]],true,false,0⟩,⟨54,4,s.eh6,true,false,0⟩,⟨174,0,s.eh7,true,false,0⟩]⟩)],Nb6⟩
theorem Nb7:Ca7.OkM:=Lo.okM [] (by kernel_rfl) .nil rfl (.cons (fun a H=>by kernel_rfl) (.cons (fun a H=>by kernel_rfl) .nil)) fun p s=>(.sel (Nat.beq s.ph 1) (.of @B3 (fun F _ _ _ _ _=>by unfold B3;(repeat' apply j5 (f:=F))<;>rfl) (by kernel_rfl)) (.of @B1 (fun F _ _ _ _ _=>by unfold B1;(repeat' apply j5 (f:=F))<;>rfl) (by kernel_rfl)))
structure i8 where
 is3:Int
 o9:Int
 fa1:Int
 Jc2:Nat
 yb4:Nat→List b7
 ua3:Int
 J4:Int
 J5:Int
 J6:Int
 da0:Int
structure j7 where
 ph:Nat
 X7:List Pln
 Ea5:Int
 d7:List Pln
 aa2:List Pln
 y7:Nat
 eh5:List (List b7)
 eh6:List (List b7)
noncomputable def Gb9 (p:i8) (s:j7):St:=⟨(.unk::((.ptr 0 0 0 0)::(.unk::((i p.is3)::((.ptr 1 0 0 0)::(ra 4 ((eL tP s.X7)::((i p.o9)::((i p.fa1)::(ra 7 ((.tree 4 p.Jc2 p.yb4)::((i p.ua3)::((i s.Ea5)::(ra 25 ((i 0)::(.unk::((.ptr 2 0 0 0)::((.v (.slice none 0 0))::((.ptr 3 0 0 0)::((.ptr 4 0 0 0)::(ra 31 []))))))))))))))))))))),[⟨0,1,[[(eL tP s.d7)]],true,false,0⟩,⟨0,4,[[(i p.J4),(i p.J5),(i p.J6),(i p.da0)]],true,false,0⟩,⟨0,1,[[(eL tP s.aa2)]],true,false,0⟩,⟨0,0,[[(.v (.slice none 0 0))]],true,false,0⟩,⟨0,0,[[(.ptr 5 0 0 0)]],true,false,0⟩,⟨174,0,[],true,false,0⟩]⟩
noncomputable def Hb0 (p:i8) (s:j7):St:=⟨(.unk::((.ptr 0 0 0 0)::(.unk::((i p.is3)::((.ptr 1 0 0 0)::(ra 4 ((eL tP s.X7)::((i p.o9)::((i p.fa1)::(ra 7 ((.tree 4 p.Jc2 p.yb4)::((i p.ua3)::((i s.Ea5)::(ra 25 ((i 0)::(.unk::((.ptr 2 0 0 0)::((.v (.slice none 0 0))::((.ptr 3 0 0 0)::((.ptr 4 0 0 0)::(ra 31 []))))))))))))))))))))),[⟨0,1,[[(eL tP s.d7)]],true,false,0⟩,⟨0,4,[[(i p.J4),(i p.J5),(i p.J6),(i p.da0)]],true,false,0⟩,⟨0,1,[[(eL tP s.aa2)]],true,false,0⟩,⟨0,0,[[(.sl 5 0 s.y7 0)]],true,false,0⟩,⟨0,0,[[(.ptr 6 0 0 0)]],true,false,0⟩,⟨54,4,s.eh5,true,false,0⟩,⟨174,0,s.eh6,true,false,0⟩]⟩
noncomputable def Nb8 (p:i8) (s:j7):St:=(sel (Nat.beq s.ph 1) (Hb0 p s) (Gb9 p s))
noncomputable def B4 {α:Type} (k:j7→α) (e:Nat→α) (z:α) (p:i8) (s:j7):α:=let t1:=(lp (A1 (⟨p.is3,(rt tP s.X7),p.o9,p.fa1,p.Jc2,p.yb4,p.ua3,s.Ea5,((List.length s.d7) - (W ((W (p.is3+s.Ea5))+2)).toNat),(fun k=>(fun k=>(tP).row (gL tP s.d7 k)) ((W ((W (p.is3+s.Ea5))+2)).toNat+k)),(↑((List.length s.d7) - (W ((W (p.is3+s.Ea5))+2)).toNat):Int),(rt tP s.d7),p.J4,p.J5,p.J6,p.da0,(toI (hdA (p.yb4 s.Ea5.toNat))),(toI (hdA (tlA (p.yb4 s.Ea5.toNat)))),(toI (hdA (tlA (tlA (p.yb4 s.Ea5.toNat))))),(toI (hdA (tlA (tlA (tlA (p.yb4 s.Ea5.toNat)))))),(rt tP s.aa2)⟩:i6)) (⟨0,0,0,[],[]⟩:i7));(sl (decide (s.Ea5 < p.ua3)) (sl (inB s.Ea5 p.Jc2) (sl ((Nat.ble 4 (len (p.yb4 s.Ea5.toNat)))&&(ia5 [(CK.int .i64),(CK.int .i64),(CK.int .i64),(CK.int .i64)] (p.yb4 s.Ea5.toNat))) (sl (inB (W ((W (p.is3+s.Ea5))+2)) ((List.length s.d7)+1)) (sl ((cnE tP s.X7)&&((cnE tP s.d7)&&((cnE tP s.aa2)&&true))) (sl (Nat.beq t1.1 1) (k ⟨0,(rt tP s.X7),(W (s.Ea5+1)),(rt tP s.d7),(rt tP s.aa2),0,[],[]⟩) (sl (Nat.beq t1.1 2) (k ⟨1,(rt tP s.X7),(W (s.Ea5+1)),(rt tP s.d7),(rt tP s.aa2),t1.2.mb3,t1.2.eh6,t1.2.eh7⟩) z)) z) z) z) z) (e 1))
noncomputable def B5 {α:Type} (k:j7→α) (e:Nat→α) (z:α) (p:i8) (s:j7):α:=let t1:=(lp (A1 (⟨p.is3,(rt tP s.X7),p.o9,p.fa1,p.Jc2,p.yb4,p.ua3,s.Ea5,((List.length s.d7) - (W ((W (p.is3+s.Ea5))+2)).toNat),(fun k=>(fun k=>(tP).row (gL tP s.d7 k)) ((W ((W (p.is3+s.Ea5))+2)).toNat+k)),(↑((List.length s.d7) - (W ((W (p.is3+s.Ea5))+2)).toNat):Int),(rt tP s.d7),p.J4,p.J5,p.J6,p.da0,(toI (hdA (p.yb4 s.Ea5.toNat))),(toI (hdA (tlA (p.yb4 s.Ea5.toNat)))),(toI (hdA (tlA (tlA (p.yb4 s.Ea5.toNat))))),(toI (hdA (tlA (tlA (tlA (p.yb4 s.Ea5.toNat)))))),(rt tP s.aa2)⟩:i6)) (⟨1,0,s.y7,s.eh5,s.eh6⟩:i7));(sl (decide (s.Ea5 < p.ua3)) (sl (inB s.Ea5 p.Jc2) (sl ((Nat.ble 4 (len (p.yb4 s.Ea5.toNat)))&&(ia5 [(CK.int .i64),(CK.int .i64),(CK.int .i64),(CK.int .i64)] (p.yb4 s.Ea5.toNat))) (sl (inB (W ((W (p.is3+s.Ea5))+2)) ((List.length s.d7)+1)) (sl ((cnE tP s.X7)&&((cnE tP s.d7)&&((cnE tP s.aa2)&&true))) (sl (Nat.beq t1.1 1) (k ⟨0,(rt tP s.X7),(W (s.Ea5+1)),(rt tP s.d7),(rt tP s.aa2),0,[],[]⟩) (sl (Nat.beq t1.1 2) (k ⟨1,(rt tP s.X7),(W (s.Ea5+1)),(rt tP s.d7),(rt tP s.aa2),t1.2.mb3,t1.2.eh6,t1.2.eh7⟩) z)) z) z) z) z) (e 2))
noncomputable def A2 (p:i8) (s:j7):Stp j7:=(sel (Nat.beq s.ph 1) (B5 .next .exit .fail p s) (B4 .next .exit .fail p s))
noncomputable def Ca8:Lo i8 j7:=⟨En na7,0,Ue1,[1,1,1,0,1,4,4,1,4,4,1,1,0,4,1,1,4,4],[1,3,4,9,10,11,19,20,21,47,49,50,51,52],(.s .p (.s .p (.s (.b (.s .p (.s .p (.b (.u Ca7.lsM))))) .p))),[⟨((.s (.o .unk))::((.s (.o (.ptr 0 0 0 0)))::((.s (.o .unk))::((.s (.o (.int .i64)))::((.s (.o (.ptr 1 0 0 0)))::(ru2 4 ((.s (.c 4 (nL tP)))::((.s (.o (.int .i64)))::((.s (.o (.int .i64)))::(ru2 7 ((.s (.o (.tree 4)))::((.s (.o (.int .i64)))::((.s (.o (.int .i64)))::(ru2 25 ((.s (.o (.lit .i64 0)))::((.s (.o .unk))::((.s (.o (.ptr 2 0 0 0)))::((.s (.o .nil))::((.s (.o (.ptr 3 0 0 0)))::((.s (.o (.ptr 4 0 0 0)))::(ru2 31 []))))))))))))))))))))),[⟨0,1,true,(some [[(.c 4 (nL tP))]])⟩,⟨0,4,true,(some [[(.o (.int .i64)),(.o (.int .i64)),(.o (.int .i64)),(.o (.int .i64))]])⟩,⟨0,1,true,(some [[(.c 4 (nL tP))]])⟩,⟨0,0,true,(some [[(.o .nil)]])⟩,⟨0,0,true,(some [[(.o (.ptr 5 0 0 0))]])⟩,⟨174,0,true,(some [])⟩],fun a H=>(⟨(toI (slT a 3)),(toI (slT a 10)),(toI (slT a 11)),(toN (slT a 19)),(toG (slT a 19)),(toI (slT a 20)),(toI (slT (rwT (elT H 1) 0) 0)),(toI (slT (rwT (elT H 1) 0) 1)),(toI (slT (rwT (elT H 1) 0) 2)),(toI (slT (rwT (elT H 1) 0) 3))⟩,⟨0,(rL tP (slT a 9)),(toI (slT a 21)),(rL tP (slT (rwT (elT H 0) 0) 0)),(rL tP (slT (rwT (elT H 2) 0) 0)),0,[],[]⟩)⟩,⟨((.s (.o .unk))::((.s (.o (.ptr 0 0 0 0)))::((.s (.o .unk))::((.s (.o (.int .i64)))::((.s (.o (.ptr 1 0 0 0)))::(ru2 4 ((.s (.c 4 (nL tP)))::((.s (.o (.int .i64)))::((.s (.o (.int .i64)))::(ru2 7 ((.s (.o (.tree 4)))::((.s (.o (.int .i64)))::((.s (.o (.int .i64)))::(ru2 25 ((.s (.o (.lit .i64 0)))::((.s (.o .unk))::((.s (.o (.ptr 2 0 0 0)))::((.s (.o .nil))::((.s (.o (.ptr 3 0 0 0)))::((.s (.o (.ptr 4 0 0 0)))::(ru2 31 []))))))))))))))))))))),[⟨0,1,true,(some [[(.c 4 (nL tP))]])⟩,⟨0,4,true,(some [[(.o (.int .i64)),(.o (.int .i64)),(.o (.int .i64)),(.o (.int .i64))]])⟩,⟨0,1,true,(some [[(.c 4 (nL tP))]])⟩,⟨0,0,true,(some [[(.o (.sl 5 0 (some 0) none))]])⟩,⟨0,0,true,(some [[(.o (.ptr 6 0 0 0))]])⟩,⟨54,4,true,none⟩,⟨174,0,true,none⟩],fun a H=>(⟨(toI (slT a 3)),(toI (slT a 10)),(toI (slT a 11)),(toN (slT a 19)),(toG (slT a 19)),(toI (slT a 20)),(toI (slT (rwT (elT H 1) 0) 0)),(toI (slT (rwT (elT H 1) 0) 1)),(toI (slT (rwT (elT H 1) 0) 2)),(toI (slT (rwT (elT H 1) 0) 3))⟩,⟨1,(rL tP (slT a 9)),(toI (slT a 21)),(rL tP (slT (rwT (elT H 0) 0) 0)),(rL tP (slT (rwT (elT H 2) 0) 0)),(slN (slT (rwT (elT H 3) 0) 0)),(elT H 5),(elT H 6)⟩)⟩],A2,[(some 2,fun p s=>⟨(.unk::((.ptr 0 0 0 0)::(.unk::((i p.is3)::((.ptr 1 0 0 0)::(ra 4 ((eL tP s.X7)::((i p.o9)::((i p.fa1)::(ra 7 ((.tree 4 p.Jc2 p.yb4)::((i p.ua3)::((i s.Ea5)::((b (decide (s.Ea5 < p.ua3)))::(ra 24 ((i 0)::(.unk::((.ptr 2 0 0 0)::((.v (.slice none 0 0))::((.ptr 3 0 0 0)::((.ptr 4 0 0 0)::(ra 31 [])))))))))))))))))))))),[⟨0,1,[[(eL tP s.d7)]],true,false,0⟩,⟨0,4,[[(i p.J4),(i p.J5),(i p.J6),(i p.da0)]],true,false,0⟩,⟨0,1,[[(eL tP s.aa2)]],true,false,0⟩,⟨0,0,[[(.v (.slice none 0 0))]],true,false,0⟩,⟨0,0,[[(.ptr 5 0 0 0)]],true,false,0⟩,⟨174,0,[],true,false,0⟩]⟩),(some 2,fun p s=>⟨(.unk::((.ptr 0 0 0 0)::(.unk::((i p.is3)::((.ptr 1 0 0 0)::(ra 4 ((eL tP s.X7)::((i p.o9)::((i p.fa1)::(ra 7 ((.tree 4 p.Jc2 p.yb4)::((i p.ua3)::((i s.Ea5)::((b (decide (s.Ea5 < p.ua3)))::(ra 24 ((i 0)::(.unk::((.ptr 2 0 0 0)::((.v (.slice none 0 0))::((.ptr 3 0 0 0)::((.ptr 4 0 0 0)::(ra 31 [])))))))))))))))))))))),[⟨0,1,[[(eL tP s.d7)]],true,false,0⟩,⟨0,4,[[(i p.J4),(i p.J5),(i p.J6),(i p.da0)]],true,false,0⟩,⟨0,1,[[(eL tP s.aa2)]],true,false,0⟩,⟨0,0,[[(.sl 5 0 s.y7 0)]],true,false,0⟩,⟨0,0,[[(.ptr 6 0 0 0)]],true,false,0⟩,⟨54,4,s.eh5,true,false,0⟩,⟨174,0,s.eh6,true,false,0⟩]⟩)],Nb8⟩
theorem Nb9:Ca8.OkM:=Lo.okM [Ca7.prM] (by kernel_rfl) (.cons Nb7 .nil) rfl (.cons (fun a H=>by kernel_rfl) (.cons (fun a H=>by kernel_rfl) .nil)) fun p s=>(.sel (Nat.beq s.ph 1) (.of @B5 (fun F _ _ _ _ _=>by unfold B5;(repeat' apply j5 (f:=F))<;>rfl) (by kernel_rfl)) (.of @B4 (fun F _ _ _ _ _=>by unfold B4;(repeat' apply j5 (f:=F))<;>rfl) (by kernel_rfl)))
structure q9 where
 o9:Int
structure l7 where
 ph:Nat
 X7:List Pln
 fa1:Int
 d7:List Pln
 n5:List Pln
 bd5:Nat
 eh4:List (List b7)
 eh5:List (List b7)
noncomputable def Hb1 (p:q9) (s:l7):St:=⟨(.unk::((.ptr 0 0 0 0)::(ra 7 ((eL tP s.X7)::((i p.o9)::((i s.fa1)::(ra 35 ((i 0)::(.unk::((.ptr 1 0 0 0)::((.v (.slice none 0 0))::((.ptr 2 0 0 0)::((.ptr 3 0 0 0)::(ra 31 [])))))))))))))),[⟨0,1,[[(eL tP s.d7)]],true,false,0⟩,⟨0,1,[[(eL tP s.n5)]],true,false,0⟩,⟨0,0,[[(.v (.slice none 0 0))]],true,false,0⟩,⟨0,0,[[(.ptr 4 0 0 0)]],true,false,0⟩,⟨174,0,[],true,false,0⟩]⟩
noncomputable def Hb2 (p:q9) (s:l7):St:=⟨(.unk::((.ptr 0 0 0 0)::(ra 7 ((eL tP s.X7)::((i p.o9)::((i s.fa1)::(ra 35 ((i 0)::(.unk::((.ptr 1 0 0 0)::((.v (.slice none 0 0))::((.ptr 2 0 0 0)::((.ptr 3 0 0 0)::(ra 31 [])))))))))))))),[⟨0,1,[[(eL tP s.d7)]],true,false,0⟩,⟨0,1,[[(eL tP s.n5)]],true,false,0⟩,⟨0,0,[[(.sl 4 0 s.bd5 0)]],true,false,0⟩,⟨0,0,[[(.ptr 5 0 0 0)]],true,false,0⟩,⟨54,4,s.eh4,true,false,0⟩,⟨174,0,s.eh5,true,false,0⟩]⟩
noncomputable def Ob0 (p:q9) (s:l7):St:=(sel (Nat.beq s.ph 1) (Hb2 p s) (Hb1 p s))
noncomputable def B6 {α:Type} (k:l7→α) (e:Nat→α) (z:α) (p:q9) (s:l7):α:=let t1:=(lp (A2 (⟨s.fa1,p.o9,s.fa1,((List.length s.d7) - (W (s.fa1+1)).toNat),(fun k=>(fun k=>(tP).row (gL tP s.d7 k)) ((W (s.fa1+1)).toNat+k)),(↑((List.length s.d7) - (W (s.fa1+1)).toNat):Int),(gL tP s.X7 s.fa1.toNat).n.x,(gL tP s.X7 s.fa1.toNat).n.y,(gL tP s.X7 s.fa1.toNat).n.z,(gL tP s.X7 s.fa1.toNat).b⟩:i8)) (⟨0,(rt tP s.X7),0,(rt tP s.d7),(rt tP s.n5),0,[],[]⟩:j7));(sl (decide (s.fa1 < p.o9)) (sl (inB s.fa1 (List.length s.X7)) (sl (inB (W (s.fa1+1)) ((List.length s.d7)+1)) (sl ((cnE tP s.X7)&&((cnE tP s.d7)&&((cnE tP s.n5)&&true))) (sl (Nat.beq t1.1 1) (k ⟨0,t1.2.X7,(W (s.fa1+1)),t1.2.d7,t1.2.aa2,0,[],[]⟩) (sl (Nat.beq t1.1 2) (k ⟨1,t1.2.X7,(W (s.fa1+1)),t1.2.d7,t1.2.aa2,t1.2.y7,t1.2.eh5,t1.2.eh6⟩) z)) z) z) z) (e 1))
noncomputable def B7 {α:Type} (k:l7→α) (e:Nat→α) (z:α) (p:q9) (s:l7):α:=let t1:=(lp (A2 (⟨s.fa1,p.o9,s.fa1,((List.length s.d7) - (W (s.fa1+1)).toNat),(fun k=>(fun k=>(tP).row (gL tP s.d7 k)) ((W (s.fa1+1)).toNat+k)),(↑((List.length s.d7) - (W (s.fa1+1)).toNat):Int),(gL tP s.X7 s.fa1.toNat).n.x,(gL tP s.X7 s.fa1.toNat).n.y,(gL tP s.X7 s.fa1.toNat).n.z,(gL tP s.X7 s.fa1.toNat).b⟩:i8)) (⟨1,(rt tP s.X7),0,(rt tP s.d7),(rt tP s.n5),s.bd5,s.eh4,s.eh5⟩:j7));(sl (decide (s.fa1 < p.o9)) (sl (inB s.fa1 (List.length s.X7)) (sl (inB (W (s.fa1+1)) ((List.length s.d7)+1)) (sl ((cnE tP s.X7)&&((cnE tP s.d7)&&((cnE tP s.n5)&&true))) (sl (Nat.beq t1.1 1) (k ⟨0,t1.2.X7,(W (s.fa1+1)),t1.2.d7,t1.2.aa2,0,[],[]⟩) (sl (Nat.beq t1.1 2) (k ⟨1,t1.2.X7,(W (s.fa1+1)),t1.2.d7,t1.2.aa2,t1.2.y7,t1.2.eh5,t1.2.eh6⟩) z)) z) z) z) (e 2))
noncomputable def A3 (p:q9) (s:l7):Stp l7:=(sel (Nat.beq s.ph 1) (B7 .next .exit .fail p s) (B6 .next .exit .fail p s))
noncomputable def Ca9:Lo q9 l7:=⟨En na7,0,Ue1,[1,1,1,0,1,4,4,1,4,4],[1,9,10,11,47,49,50,51,52],(.s .p (.s .p (.s (.b (.s .p (.s .p (.b (.u Ca8.lsM))))) .p))),[⟨((.s (.o .unk))::((.s (.o (.ptr 0 0 0 0)))::(ru2 7 ((.s (.c 4 (nL tP)))::((.s (.o (.int .i64)))::((.s (.o (.int .i64)))::(ru2 35 ((.s (.o (.lit .i64 0)))::((.s (.o .unk))::((.s (.o (.ptr 1 0 0 0)))::((.s (.o .nil))::((.s (.o (.ptr 2 0 0 0)))::((.s (.o (.ptr 3 0 0 0)))::(ru2 31 [])))))))))))))),[⟨0,1,true,(some [[(.c 4 (nL tP))]])⟩,⟨0,1,true,(some [[(.c 4 (nL tP))]])⟩,⟨0,0,true,(some [[(.o .nil)]])⟩,⟨0,0,true,(some [[(.o (.ptr 4 0 0 0))]])⟩,⟨174,0,true,(some [])⟩],fun a H=>(⟨(toI (slT a 10))⟩,⟨0,(rL tP (slT a 9)),(toI (slT a 11)),(rL tP (slT (rwT (elT H 0) 0) 0)),(rL tP (slT (rwT (elT H 1) 0) 0)),0,[],[]⟩)⟩,⟨((.s (.o .unk))::((.s (.o (.ptr 0 0 0 0)))::(ru2 7 ((.s (.c 4 (nL tP)))::((.s (.o (.int .i64)))::((.s (.o (.int .i64)))::(ru2 35 ((.s (.o (.lit .i64 0)))::((.s (.o .unk))::((.s (.o (.ptr 1 0 0 0)))::((.s (.o .nil))::((.s (.o (.ptr 2 0 0 0)))::((.s (.o (.ptr 3 0 0 0)))::(ru2 31 [])))))))))))))),[⟨0,1,true,(some [[(.c 4 (nL tP))]])⟩,⟨0,1,true,(some [[(.c 4 (nL tP))]])⟩,⟨0,0,true,(some [[(.o (.sl 4 0 (some 0) none))]])⟩,⟨0,0,true,(some [[(.o (.ptr 5 0 0 0))]])⟩,⟨54,4,true,none⟩,⟨174,0,true,none⟩],fun a H=>(⟨(toI (slT a 10))⟩,⟨1,(rL tP (slT a 9)),(toI (slT a 11)),(rL tP (slT (rwT (elT H 0) 0) 0)),(rL tP (slT (rwT (elT H 1) 0) 0)),(slN (slT (rwT (elT H 2) 0) 0)),(elT H 4),(elT H 5)⟩)⟩],A3,[(some 0,fun p s=>⟨(.unk::((.ptr 0 0 0 0)::(ra 7 ((eL tP s.X7)::((i p.o9)::((i s.fa1)::((b (decide (s.fa1 < p.o9)))::(ra 34 ((i 0)::(.unk::((.ptr 1 0 0 0)::((.v (.slice none 0 0))::((.ptr 2 0 0 0)::((.ptr 3 0 0 0)::(ra 31 []))))))))))))))),[⟨0,1,[[(eL tP s.d7)]],true,false,0⟩,⟨0,1,[[(eL tP s.n5)]],true,false,0⟩,⟨0,0,[[(.v (.slice none 0 0))]],true,false,0⟩,⟨0,0,[[(.ptr 4 0 0 0)]],true,false,0⟩,⟨174,0,[],true,false,0⟩]⟩),(some 0,fun p s=>⟨(.unk::((.ptr 0 0 0 0)::(ra 7 ((eL tP s.X7)::((i p.o9)::((i s.fa1)::((b (decide (s.fa1 < p.o9)))::(ra 34 ((i 0)::(.unk::((.ptr 1 0 0 0)::((.v (.slice none 0 0))::((.ptr 2 0 0 0)::((.ptr 3 0 0 0)::(ra 31 []))))))))))))))),[⟨0,1,[[(eL tP s.d7)]],true,false,0⟩,⟨0,1,[[(eL tP s.n5)]],true,false,0⟩,⟨0,0,[[(.sl 4 0 s.bd5 0)]],true,false,0⟩,⟨0,0,[[(.ptr 5 0 0 0)]],true,false,0⟩,⟨54,4,s.eh4,true,false,0⟩,⟨174,0,s.eh5,true,false,0⟩]⟩)],Ob0⟩
theorem Ob1:Ca9.OkM:=Lo.okM [Ca8.prM] (by kernel_rfl) (.cons Nb9 .nil) rfl (.cons (fun a H=>by kernel_rfl) (.cons (fun a H=>by kernel_rfl) .nil)) fun p s=>(.sel (Nat.beq s.ph 1) (.of @B7 (fun F _ _ _ _ _=>by unfold B7;(repeat' apply j5 (f:=F))<;>rfl) (by kernel_rfl)) (.of @B6 (fun F _ _ _ _ _=>by unfold B6;(repeat' apply j5 (f:=F))<;>rfl) (by kernel_rfl)))
noncomputable def da2 (x:List Pln):Option (b7×List b8):=let t1:=(lp (A3 (⟨(↑(List.length x):Int)⟩:q9)) (⟨0,(rt tP x),0,(rt tP x),(rt tP x),0,[],[]⟩:l7));(sl ((cnE tP x)&&((cnE tP x)&&((cnE tP x)&&true))) (sl (Nat.beq t1.1 1) (some ((.v (.slice none 0 0)),[])) (sl (Nat.beq t1.1 2) (some ((.sl 0 0 t1.2.bd5 0),[⟨54,4,t1.2.eh4,true,false,0⟩])) none)) none)
noncomputable def da3 (x:List Pln):List Pt:=aa3 (one (r1L tX)) (da2 x)
noncomputable def da4 (x:List Pln):Bool:=okO (one (r1L tX)) (da2 x)
noncomputable def Ka4:Sum:=S5 (Fa1 tP) (fun x=>.guard (da4 x) (.ret ((one (r1L tX)).enc (da3 x),[])))
theorem bb9:g8 prog G 89 Ka4:=Pa9 (bd b89 Rb8) (one (r1L tX)) (o:=da2) fun x=>ke6 (.s .p (.s .p (.s .p (.s (.s .p (.b (.i (.s .p (.b (.u Ca9.lsM)))))) .p)))) [Ca9.prM] (by kernel_rfl) (.cons Ob1 .nil) (by kernel_rfl)
end Go.Ev.Ce
end
section
namespace Go.Ev.Ce
open Go Go.Ev Go.Ev.L Go.Proofs
set_option maxRecDepth 100000
noncomputable def bc8:List (Nat×Sum):=[]
theorem Mc3:i4 prog G bc8:=trivial
structure Da0 where
 is0:Int
 Zd2:List Int
 is8:Int
structure Q4 where
 is9:Int
noncomputable def Dc9 (p:Da0) (s:Q4):St:=⟨((i p.is0)::(ra 6 ((eL tI p.Zd2)::((i p.is8)::((i s.is9)::(ra 13 [])))))),[]⟩
noncomputable def sa3 {α:Type} (k:Q4→α) (e:Nat→α) (z:α) (p:Da0) (s:Q4):α:=(sl (decide (s.is9 < p.is8)) (sl (inB s.is9 (List.length p.Zd2)) (sl (decide ((gL tI p.Zd2 s.is9.toNat) < (W (0 - p.is0)))) (e 1) (sl (decide ((gL tI p.Zd2 s.is9.toNat) > p.is0)) (e 1) (k ⟨(W (s.is9+1))⟩))) z) (e 2))
noncomputable def ya2 (p:Da0) (s:Q4):Stp Q4:=sa3 .next .exit .fail p s
noncomputable def ib3:Lo Da0 Q4:=⟨En bc8,0,df4,[1,0,1,4,4],[0,7,8,9],.p,[⟨((.s (.o (.int .i64)))::(ru2 6 ((.s (.c 1 (nL tI)))::((.s (.o (.int .i64)))::((.s (.o (.int .i64)))::(ru2 13 [])))))),[],fun a H=>(⟨(toI (slT a 0)),(rL tI (slT a 7)),(toI (slT a 8))⟩,⟨(toI (slT a 9))⟩)⟩],ya2,[(none,fun p s=>⟨[(b false)],[]⟩),(some 0,fun p s=>⟨((i p.is0)::(ra 6 ((eL tI p.Zd2)::((i p.is8)::((i s.is9)::((b (decide (s.is9 < p.is8)))::(ra 12 []))))))),[]⟩)],Dc9⟩
theorem Ec0:ib3.Ok:=Lo.ok [] (by kernel_rfl) .nil rfl (.cons (fun a H=>by kernel_rfl) .nil) fun p s=>(.of @sa3 (fun F _ _ _ _ _=>by unfold sa3;(repeat' apply j5 (f:=F))<;>rfl) (by kernel_rfl))
noncomputable def Ma7 (x:Int) (y:List Int):Option (b7×List b8):=let t1:=(lp (ya2 (⟨x,(rt tI y),(↑(List.length y):Int)⟩:Da0)) (⟨0⟩:Q4));(sl ((cnE tI y)&&true) (sl (Nat.beq t1.1 1) (some ((b false),[])) (sl (Nat.beq t1.1 2) (some ((b true),[])) none)) none)
noncomputable def Da1 (x:Int) (y:List Int):Bool:=aa3 (one r1B) (Ma7 x y)
noncomputable def Da2 (x:Int) (y:List Int):Bool:=okO (one r1B) (Ma7 x y)
noncomputable def Bb2:Sum:=Sa3 cI (Fa1 tI) (fun x y=>.guard (Da2 x y) (.ret ((one r1B).enc (Da1 x y),[])))
theorem bc9:g8 prog G 164 Bb2:=rc6 (bd Hf1 Mc3) (one r1B) (o:=Ma7) fun x y=>Ma1 (.s .p (.s (.s .p (.b (.u ib3.ls))) .p)) [ib3.pr] (by kernel_rfl) (.cons Ec0 .nil) (by kernel_rfl)
noncomputable def Ec1:List (Nat×Sum):=[]
theorem xc5:i4 prog G Ec1:=trivial
noncomputable def Qa2 (x:Int):Int:=(if (W (0 - x)) > x then (W (0 - x)) else x)
noncomputable def Rb9:Sum:=S5 cI (fun x=>.ret ((one r1I).enc (Qa2 x),[]))
theorem Ec2:g8 prog G 214 Rb9:=lb0 (bd Jf8 xc5) fun x=>q8 (by kernel_rfl)
noncomputable def ib4:List (Nat×Sum):=[(214,Rb9)]
theorem Ec3:i4 prog G ib4:=⟨Ec2,trivial⟩
structure ia8 where
 Ba3:List Int
 is7:Int
 is8:Int
structure S1 where
 is3:Int
 is5:Int
noncomputable def xc6 (p:ia8) (s:S1):St:=⟨(ra 3 ((i s.is3)::(.unk::((i s.is5)::((eL tI p.Ba3)::((i p.is7)::((i p.is8)::(ra 15 [])))))))),[]⟩
noncomputable def ma6 {α:Type} (k:S1→α) (e:Nat→α) (z:α) (p:ia8) (s:S1):α:=(sl (decide (s.is5 > 0)) (sl (s.is5==0) z (k ⟨s.is5,(Int.tmod s.is3 s.is5)⟩)) (e 1))
noncomputable def ea1 (p:ia8) (s:S1):Stp S1:=ma6 .next .exit .fail p s
noncomputable def cb0:Lo ia8 S1:=⟨En ib4,0,De4,[1,1,0,1,4,4,1,1,0,4,1,1,1,4,4],[3,5,6,7,8],.p,[⟨(ru2 3 ((.s (.o (.int .i64)))::((.s (.o .unk))::((.s (.o (.int .i64)))::((.s (.c 1 (nL tI)))::((.s (.o (.int .i64)))::((.s (.o (.int .i64)))::(ru2 15 [])))))))),[],fun a H=>(⟨(rL tI (slT a 6)),(toI (slT a 7)),(toI (slT a 8))⟩,⟨(toI (slT a 3)),(toI (slT a 5))⟩)⟩],ea1,[(some 2,fun p s=>⟨(ra 3 ((i s.is3)::(.unk::((i s.is5)::((eL tI p.Ba3)::((i p.is7)::((i p.is8)::(ra 7 ((i s.is5)::((b (decide (s.is5 > 0)))::(ra 6 []))))))))))),[]⟩)],xc6⟩
theorem xc7:cb0.Ok:=Lo.ok [] (by kernel_rfl) .nil rfl (.cons (fun a H=>by kernel_rfl) .nil) fun p s=>(.of @ma6 (fun F _ _ _ _ _=>by unfold ma6;(repeat' apply j5 (f:=F))<;>rfl) (by kernel_rfl))
structure ya3 where
 is7:Int
structure L9 where
 is3:Int
 Ba3:List Int
 is8:Int
noncomputable def xc8 (p:ya3) (s:L9):St:=⟨(ra 3 ((i s.is3)::(.unk::(.unk::((eL tI s.Ba3)::((i p.is7)::((i s.is8)::(ra 15 [])))))))),[]⟩
noncomputable def ma7 {α:Type} (k:L9→α) (e:Nat→α) (z:α) (p:ya3) (s:L9):α:=let t1:=(Qa2 (gL tI s.Ba3 s.is8.toNat));let t2:=(lp (ea1 (⟨(rt tI s.Ba3),p.is7,s.is8⟩:ia8)) (⟨s.is3,t1⟩:S1));(sl (decide (s.is8 < p.is7)) (sl (inB s.is8 (List.length s.Ba3)) (sl ((gL tI s.Ba3 s.is8.toNat)==(-9223372036854775808)) (e 1) (sl ((cnE tI s.Ba3)&&true) (sl (Nat.beq t2.1 1) (k ⟨t2.2.is3,(rt tI s.Ba3),(W (s.is8+1))⟩) z) z)) z) (e 2))
noncomputable def sa4 (p:ya3) (s:L9):Stp L9:=ma7 .next .exit .fail p s
noncomputable def cb1:Lo ya3 L9:=⟨En ib4,0,De4,[1,1,0,1,4,4],[3,6,7,8],(.s .p (.s .p (.s (.b (.s .p (.s .p (.s .p (.b (.u cb0.ls)))))) .p))),[⟨(ru2 3 ((.s (.o (.int .i64)))::((.s (.o .unk))::((.s (.o .unk))::((.s (.c 1 (nL tI)))::((.s (.o (.int .i64)))::((.s (.o (.int .i64)))::(ru2 15 [])))))))),[],fun a H=>(⟨(toI (slT a 7))⟩,⟨(toI (slT a 3)),(rL tI (slT a 6)),(toI (slT a 8))⟩)⟩],sa4,[(none,fun p s=>⟨[(i 0)],[]⟩),(some 0,fun p s=>⟨(ra 3 ((i s.is3)::(.unk::(.unk::((eL tI s.Ba3)::((i p.is7)::((i s.is8)::((b (decide (s.is8 < p.is7)))::(ra 14 []))))))))),[]⟩)],xc8⟩
theorem xc9:cb1.Ok:=Lo.ok [cb0.pr] (by kernel_rfl) (.cons xc7 .nil) rfl (.cons (fun a H=>by kernel_rfl) .nil) fun p s=>(.of @ma7 (fun F _ _ _ _ _=>by unfold ma7;(repeat' apply j5 (f:=F))<;>rfl) (by kernel_rfl))
noncomputable def Ha4 (x:List Int):Option (b7×List b8):=let t1:=(lp (sa4 (⟨(↑(List.length x):Int)⟩:ya3)) (⟨0,(rt tI x),0⟩:L9));(sl ((cnE tI x)&&true) (sl (Nat.beq t1.1 1) (some ((i 0),[])) (sl (Nat.beq t1.1 2) (some ((i t1.2.is3),[])) none)) none)
noncomputable def la4 (x:List Int):Int:=aa3 (one r1I) (Ha4 x)
noncomputable def la5 (x:List Int):Bool:=okO (one r1I) (Ha4 x)
noncomputable def qb4:Sum:=S5 (Fa1 tI) (fun x=>.guard (la5 x) (.ret ((one r1I).enc (la4 x),[])))
theorem Sb0:g8 prog G 165 qb4:=Pa9 (bd Hf2 Ec3) (one r1I) (o:=Ha4) fun x=>Ma1 (.s .p (.s .p (.s (.s .p (.b (.u cb1.ls))) .p))) [cb1.pr] (by kernel_rfl) (.cons xc9 .nil) (by kernel_rfl)
noncomputable def id1:List (Nat×Sum):=[(164,Bb2),(165,qb4)]
theorem Vc7:i4 prog G id1:=⟨bc9,Sb0,trivial⟩
noncomputable def Ta7 (x:Pln):Option (b7×List b8):=let t1:=(Da1 4608 [x.n.x,x.n.y,x.n.z]);let t2:=(la4 [x.n.x,x.n.y,x.n.z]);let t3:=(Da1 2097152 [x.b]);(sl (Da2 4608 [x.n.x,x.n.y,x.n.z]) (sl t1 (sl (la5 [x.n.x,x.n.y,x.n.z]) (sl (t2==1) (sl (Da2 2097152 [x.b]) (some ((b t3),[])) none) (some ((b false),[]))) none) (some ((b false),[]))) none)
noncomputable def Ta8 (x:Pln):Bool:=aa3 (one r1B) (Ta7 x)
noncomputable def Ta9 (x:Pln):Bool:=okO (one r1B) (Ta7 x)
noncomputable def Ob2:Sum:=S5 (ua9 tP) (fun x=>.guard (Ta9 x) (.ret ((one r1B).enc (Ta8 x),[])))
theorem jc8:g8 prog G 85 Ob2:=Pa9 (bd b85 Vc7) (one r1B) (o:=Ta7) fun x=>q8 (by kernel_rfl)
noncomputable def Vc8:List (Nat×Sum):=[(85,Ob2)]
theorem Mc4:i4 prog G Vc8:=⟨jc8,trivial⟩
noncomputable def Ma8 (x:Pln):Option (b7×List b8):=let t1:=(Ta8 x);(sl (Ta9 x) (some ((b (!t1)),[])) none)
noncomputable def cb2 (x:Pln):Bool:=aa3 (one r1B) (Ma8 x)
noncomputable def cb3 (x:Pln):Bool:=okO (one r1B) (Ma8 x)
noncomputable def jc9:Sum:=S5 (ua9 tP) (fun x=>.guard (cb3 x) (.ret ((one r1B).enc (cb2 x),[])))
theorem Vc9:g8 prog G 84 jc9:=Pa9 (bd b84 Mc4) (one r1B) (o:=Ma8) fun x=>q8 (by kernel_rfl)
structure ba2 where
 l0:List Pln
noncomputable def Ma9:List (Nat×Sum):=[(84,jc9)]
theorem vb0:i4 prog G Ma9:=⟨Vc9,trivial⟩
structure M0 where
 l0:List Pln
 is7:Int
structure o3 where
 is8:Int
noncomputable def qb5 (p:M0) (s:o3):St:=⟨((eL tP p.l0)::((.fn 84 [])::(ra 5 ((i p.is7)::((i s.is8)::(ra 10 [])))))),[]⟩
noncomputable def G7 {α:Type} (k:o3→α) (e:Nat→α) (z:α) (p:M0) (s:o3):α:=let t1:=(cb2 (gL tP p.l0 s.is8.toNat));(sl (decide (s.is8 < p.is7)) (sl (inB s.is8 (List.length p.l0)) (sl (cb3 (gL tP p.l0 s.is8.toNat)) (sl t1 (e 1) (k ⟨(W (s.is8+1))⟩)) z) z) (e 2))
noncomputable def K1 (p:M0) (s:o3):Stp o3:=G7 .next .exit .fail p s
noncomputable def na8:Lo M0 o3:=⟨En Ma9,0,zd7,[1,0,1,4,4],[0,1,7,8],.p,[⟨((.s (.c 4 (nL tP)))::((.s (.o (.fn 84)))::(ru2 5 ((.s (.o (.int .i64)))::((.s (.o (.int .i64)))::(ru2 10 [])))))),[],fun a H=>(⟨(rL tP (slT a 0)),(toI (slT a 7))⟩,⟨(toI (slT a 8))⟩)⟩],K1,[(none,fun p s=>⟨[(i s.is8)],[]⟩),(some 0,fun p s=>⟨((eL tP p.l0)::((.fn 84 [])::(ra 5 ((i p.is7)::((i s.is8)::((b (decide (s.is8 < p.is7)))::(ra 9 []))))))),[]⟩)],qb5⟩
theorem qb6:na8.Ok:=Lo.ok [] (by kernel_rfl) .nil rfl (.cons (fun a H=>by kernel_rfl) .nil) fun p s=>(.of @G7 (fun F _ _ _ _ _=>by unfold G7;(repeat' apply j5 (f:=F))<;>rfl) (by kernel_rfl))
structure ba3 where
 alt:Nat
 is0:Int
noncomputable def H9 {α:Type} (kk:ba3→α) (x:ba2):α:=let t1:=(lp (K1 (⟨(rt tP x.l0),(↑(List.length x.l0):Int)⟩:M0)) (⟨0⟩:o3));(sl ((cnE tP x.l0)&&true) (sl (Nat.beq t1.1 1) (kk ⟨1,t1.2.is8⟩) (sl (Nat.beq t1.1 2) (kk ⟨1,(-1)⟩) (kk ⟨0,0⟩))) (kk ⟨0,0⟩))
noncomputable def va3 (x:ba2):ba3:=H9 (fun r=>r) x
noncomputable def sa5 (x:ba2) (r:ba3):DT (b7×List b8):=(.ite (Nat.beq r.alt 1) (.ret ((i r.is0),[])) .fail)
theorem Hb3 {α β:Type} (F:α→β) (kk:ba3→α) (x:ba2):F (H9 kk x)=H9 (fun r=>F (kk r)) x:=by unfold H9;(repeat' apply j5 (f:=F))<;>rfl
noncomputable def Ra2:Sum:=za8 ⟨[(.s (.c 4 (nL tP))),(.s (.o (.fn 84)))],[],fun a H=>(⟨(rL tP (slT a 0))⟩,())⟩ (fun x=>sa5 x (va3 x))
theorem Bb3:g8 prog G 163 Ra2:=w7 (enc:=fun x=>⟨[(eL tP x.l0),(.fn 84 [])],[]⟩) (fun a H=>by kernel_rfl) (bd De9 vb0) fun x=>Ma1 (.s .p (.s (.s .p (.b (.u na8.ls))) .p)) [na8.pr] (by kernel_rfl) (.cons qb6 .nil) (Eq.trans (b:=H9 (fun r=>(sa5 x r).run) x) (by kernel_rfl) (Hb3 (fun r=>(sa5 x r).run) (fun r=>r) x).symm)
structure U0 where
 l0:List Pln
noncomputable def nb5:List (Nat×Sum):=[(163,Ra2)]
theorem ib5:i4 prog G nb5:=⟨Bb3,trivial⟩
structure U1 where
 alt:Nat
 bs0:Bool
noncomputable def C5 {α:Type} (kk:U1→α) (x:U0):α:=let t1:=(va3 ⟨(rt tP x.l0)⟩);(sl ((cnE tP x.l0)&&true) (sl (Nat.beq t1.alt 1) (kk ⟨1,(decide (t1.is0≥0))⟩) (kk ⟨0,false⟩)) (kk ⟨0,false⟩))
noncomputable def la6 (x:U0):U1:=C5 (fun r=>r) x
noncomputable def ga5 (x:U0) (r:U1):DT (b7×List b8):=(.ite (Nat.beq r.alt 1) (.ret ((b r.bs0),[])) .fail)
theorem qb7 {α β:Type} (F:α→β) (kk:U1→α) (x:U0):F (C5 kk x)=C5 (fun r=>F (kk r)) x:=by unfold C5;(repeat' apply j5 (f:=F))<;>rfl
noncomputable def Ha5:Sum:=za8 ⟨[(.s (.c 4 (nL tP))),(.s (.o (.fn 84)))],[],fun a H=>(⟨(rL tP (slT a 0))⟩,())⟩ (fun x=>ga5 x (la6 x))
theorem nb6:g8 prog G 83 Ha5:=w7 (enc:=fun x=>⟨[(eL tP x.l0),(.fn 84 [])],[]⟩) (fun a H=>by kernel_rfl) (bd b83 ib5) fun x=>q8 (Eq.trans (b:=C5 (fun r=>(ga5 x r).run) x) (by kernel_rfl) (qb7 (fun r=>(ga5 x r).run) (fun r=>r) x).symm)
noncomputable def rd6:List (Nat×Sum):=[(83,Ha5)]
theorem id3:i4 prog G rd6:=⟨nb6,trivial⟩
noncomputable def cb4 (x:List Pln):Option (b7×List b8):=let t1:=(la6 ⟨(rt tP x)⟩);(sl (decide ((↑(List.length x):Int) > 48)) (some ((i 2),[])) (sl ((cnE tP x)&&true) (sl (Nat.beq t1.alt 1) (sl t1.bs0 (some ((i 12),[])) (some ((i 0),[]))) none) none))
noncomputable def cb5 (x:List Pln):Int:=aa3 (one r1I) (cb4 x)
noncomputable def cb6 (x:List Pln):Bool:=okO (one r1I) (cb4 x)
noncomputable def Xb8:Sum:=S5 (Fa1 tP) (fun x=>.guard (cb6 x) (.ret ((one r1I).enc (cb5 x),[])))
theorem uc2:g8 prog G 15 Xb8:=Pa9 (bd b15 id3) (one r1I) (o:=cb4) fun x=>q8 (by kernel_rfl)
noncomputable def Wc0:List (Nat×Sum):=[(15,Xb8)]
theorem Mc5:i4 prog G Wc0:=⟨uc2,trivial⟩
noncomputable def Na0 (x:List Pln):Option (b7×List b8):=let t1:=(cb5 (rt tP x));(sl (okE tP x) (sl (cb6 (rt tP x)) (some ((b (t1 != 0)),[])) none) none)
noncomputable def cb7 (x:List Pln):Bool:=aa3 (one r1B) (Na0 x)
noncomputable def cb8 (x:List Pln):Bool:=okO (one r1B) (Na0 x)
noncomputable def kc0:Sum:=S5 (Fa1 tP) (fun x=>.guard (cb8 x) (.ret ((one r1B).enc (cb7 x),[])))
theorem Wc1:g8 prog G 168 kc0:=Pa9 (bd Hf5 Mc5) (one r1B) (o:=Na0) fun x=>q8 (by kernel_rfl)
end Go.Ev.Ce
end
namespace Go.Proofs
open Go.Shelf
set_option maxRecDepth 100000 in
def Ce.growP_ren:Go.Shelf.Ren:=⟨fun | 4=>216 | n=>n,fun | 22=>25 | 25=>50 | 3=>3 | 4=>4 | 9=>9 | 20=>20 | 0=>0 | n=>n,fun | n=>n⟩
set_option maxRecDepth 100000 in
theorem Ce.growP:Go.Proofs.Lays8.n4 Tryz.prog Ce.growP_ren:={
 mixed:=by kernel_rfl
 f4:=⟨Tryz.f216.name,by decide,Tryz.func216.trans (congrArg some (by kernel_rfl))⟩
 t0:=Tryz.underlying0
 a0:=Tryz.isAgg0
 z0:=Tryz.sizeOf0
 v0:=Tryz.zeroValue0
 t3:=Tryz.underlying3
 a3:=Tryz.isAgg3
 z3:=Tryz.sizeOf3
 v3:=Tryz.zeroValue3
 t4:=Tryz.underlying4
 a4:=Tryz.isAgg4
 z4:=Tryz.sizeOf4
 v4:=Tryz.zeroValue4
 t9:=Tryz.underlying9
 a9:=Tryz.isAgg9
 z9:=Tryz.sizeOf9
 v9:=Tryz.zeroValue9
 t20:=Tryz.underlying20
 a20:=Tryz.isAgg20
 z20:=Tryz.sizeOf20
 v20:=Tryz.zeroValue20
 t22:=Tryz.underlying25
 a22:=Tryz.isAgg25
 z22:=Tryz.sizeOf25
 v22:=Tryz.zeroValue25 }
end Go.Proofs
namespace Go.Ev.Ce
open Go Go.Ev Go.Proofs
noncomputable def Hd4:List b7:=[i 0,i 0,i 0,i 0]
noncomputable def Sa4:Sum:=fun args blks=>match args,blks with
 | [.v (.slice none 0 0), .v (.int .i64 n)], [] => .ite (n == 0) (.ret (.v (.slice none 0 0), []))
   (.guard (Bool.and (decide (0 < n)) (Nat.ble (n.toNat*32) room)) (.ret (.sl 0 0 0 0,[⟨50,4,List.replicate n.toNat Hd4,true,false,0⟩])))
 | _,_=>.fail
theorem z50:zeT Tryz.prog 50=some Hd4:=by kernel_rfl
theorem s50:szT Tryz.prog 50=4:=by kernel_rfl
theorem y50:byT Tryz.prog 50=32:=by kernel_rfl
theorem t25:Ce.growP_ren.t 25=50:=by kernel_rfl
theorem f4:Ce.growP_ren.f 4=216:=by kernel_rfl
set_option maxRecDepth 100000 in
theorem kc1:g8 prog G 216 Sa4:=by
 intro args blks r out he W ρ F w args' hH hlen hargs hG
 refine⟨⟨_,Tryz.func216,by kernel_rfl,of_decide_eq_true (by kernel_rfl)⟩,?_⟩
 unfold Sa4 at he
 split at he
 case h_2=>cases he
 rename_i n
 match args',hlen with
 | [v0,v1],_ =>
 have e0:=ma5 (hargs 0 _ _ rfl rfl)
 have e1:=ma5 (hargs 1 _ _ rfl rfl)
 subst e0 e1
 rcases DT.run_ite_some he with⟨h0,he⟩ | ⟨h0,he⟩
 ·have h0:n=0:=by simpa using h0
  subst h0
  injection he with he;injection he with q1 q2;subst q1 q2
  have:=Any8.slices_Grow_room Ce.growP none 0 0 0 w (Nat.le_refl _) (by omega) (by omega) (by omega)
  rw[f4] at this
  refine this.mono fun e w' ⟨h1,h2⟩=>?_
  subst h1 h2
  exact⟨_,rfl,ρ,F,.refl,hH,.ofv _⟩
 ·obtain⟨hg,he⟩:=DT.run_guard_some he
  rw[Bool.and_eq_true,decide_eq_true_eq] at hg
  obtain⟨hpos,hroom⟩:=hg
  have hroom:=Nat.le_of_ble_eq_true hroom
  unfold room at hroom
  obtain⟨m,rfl⟩:=Int.eq_ofNat_of_zero_le (Int.le_of_lt hpos)
  have hm:0 < m:=by omega
  have he:some (b7.sl 0 0 0 0,[(⟨50,4,List.replicate m Hd4,true,false,0⟩:b8)])=some (r,out):=he
  injection he with he;injection he with q1 q2;subst q1 q2
  obtain⟨ti,zv,hi,hzz,hzr,hone⟩:=hb5 (E:=En []) z50
  have hi:Tryz.prog.info? 50=some ti:=hi
  have hts:ti.size=4:=by have:=s50;simp only[szT,hi] at this;exact this
  have hby:ti.bytes=32:=by have:=y50;simp only[byT,hi] at this;exact this
  have hzs:zv.cells.size=4:=by
   have:=congrArg List.length hzr
   simpa [Hd4] using this.symm
  have hroom':m*32≤140737488355328:=hroom
  have:=Any8.slices_Grow_grow Ce.growP ti zv (by rw[t25];exact hi) hzz (by omega) none 0 0 m [] w (Nat.le_refl _) (by omega) (by rw[hby];omega) (by omega) (by simp) (fun _=>rfl) (fun a ha=>by cases ha)
  rw[f4,t25] at this
  refine this.mono fun e w' ⟨h1,h2⟩=>?_
  have hcap:=grownCap_ge w (0+m) 0 50
  have hcap2:=grownCap_le_maxLen w (0+m) 0 50 (by unfold maxLen;omega)
  subst h1
  generalize grownCap w (0+m) 0 50=G' at *
  have hsz:∀ q,(Builtin.zeroCells zv.cells q).size=q*4:=fun q=>by simp[Builtin.zeroCells,hzs]
  have hcc:(#[]++Builtin.zeroCells zv.cells (0+m - 0)++Builtin.zeroCells zv.cells (G' - (0+m))).size=G'*4:=by
   rw[Array.size_append,Array.size_append,hsz,hsz]
   simp
   omega
  have hobj:w'.heap[w.heap.size]?=some (.cells (#[]++Builtin.zeroCells zv.cells (0+m - 0)++Builtin.zeroCells zv.cells (G' - (0+m))) 50 (0,0)):=by
   rw[h2]
   exact World.alloc_heap_new w.drew _
  have hold:∀ k,k < w.heap.size→w'.heap[k]?=w.heap[k]?:=fun k hk=>by
   rw[h2]
   simp only[World.alloc,Array.getElem?_push,World.drew]
   rw[if_neg (by omega)]
  have hws:w'.heap.size=w.heap.size+1:=by rw[h2];exact Array.size_push ..
  obtain⟨h6,h7⟩:=hH.newAt (w':=w') (by rw[h2];rfl) (by rw[h2];rfl) (by rw[h2];rfl) (by rw[h2];exact Nat.le_succ _) (by omega) hold w.heap.size (Nat.le_refl _) 50 4 (List.replicate m Hd4) _ 50 hobj
   (fun j r hr=>by rw[List.getElem?_replicate] at hr;split at hr<;>cases hr;rfl) (by rw[List.length_replicate,hcc];omega)
   (fun j r c x hr hx=>by
    have hjm:j < m:=by
     have:=(List.getElem?_eq_some_iff.1 hr).1
     simpa using this
    rw[List.getElem?_replicate,if_pos hjm] at hr
    injection hr with hr
    subst hr
    have hc4:c < 4:=(List.getElem?_eq_some_iff.1 hx).1
    rw[hzr,List.getElem?_map] at hx
    have hcz:c < zv.cells.size:=by omega
    have hq:zv.cells.toList[c]?=some zv.cells[c]:=by simp[hcz]
    rw[hq] at hx
    injection hx with hx
    subst hx
    refine⟨zv.cells[c],?_,.v _ (hone _ (by simp))⟩
    have hlt:j*4+c < m*4:=by omega
    rw[Array.append_assoc,Array.empty_append,Array.getElem?_append_left (by rw[hsz];omega)]
    have hm4:(j*4+c) % 4=c:=by omega
    simp only[Builtin.zeroCells,hzs]
    rw[Array.getElem?_map,Array.getElem?_range]
    rw[if_pos (by omega)]
    simp[hm4,hcz])
   (fun _=>rfl)
  refine⟨_,rfl,_,F,h6,h7,.val (.cell ?_)⟩
  refine .sl 0 0 0 0 _ _ { et:=50,es:=4,elems:=List.replicate m Hd4,own:=true,dead:=false,g:=0 } rfl rfl (Nat.le_refl _) (Nat.zero_le _) rfl hcap2 fun _=>⟨.inr ?_,?_,by simp⟩
  ·simp[ρnew]
  ·simp only[ρnew,List.length_nil,if_true]
   rw[hcc,Nat.zero_add]
end Go.Ev.Ce
section
namespace Go.Ev.Ce
open Go Go.Ev Go.Ev.L Go.Proofs
set_option maxRecDepth 100000
noncomputable def Fa3:List (Nat×Sum):=[(216,Sa4)]
theorem Sb1:i4 prog G Fa3:=⟨kc1,trivial⟩
structure V9 where
 La0:List (List Pln)
 pd1:List (List Pln)
 o9:Int
structure w9 where
 is3:Int
 fa1:Int
noncomputable def Ob3 (p:V9) (s:w9):St:=⟨((eL (tLs tP) p.La0)::(.unk::(.unk::((i s.is3)::(ra 5 ((eL (tLs tP) p.pd1)::((i p.o9)::((i s.fa1)::(ra 24 []))))))))),[]⟩
noncomputable def R2 {α:Type} (k:w9→α) (e:Nat→α) (z:α) (p:V9) (s:w9):α:=(sl (decide (s.fa1 < p.o9)) (sl (inB s.fa1 (List.length p.pd1)) (sl (decide ((W (s.is3+(↑(List.length (gL (tLs tP) p.pd1 s.fa1.toNat)):Int))) < 0)) z (k ⟨(W (s.is3+(↑(List.length (gL (tLs tP) p.pd1 s.fa1.toNat)):Int))),(W (s.fa1+1))⟩)) z) (e 1))
noncomputable def K9 (p:V9) (s:w9):Stp w9:=R2 .next .exit .fail p s
noncomputable def Da3:Lo V9 w9:=⟨En Fa3,0,De5,[1,1,0,1,4,4],[0,3,9,10,11],.p,[⟨((.s (.c 1 (nL (tLs tP))))::((.s (.o .unk))::((.s (.o .unk))::((.s (.o (.int .i64)))::(ru2 5 ((.s (.c 1 (nL (tLs tP))))::((.s (.o (.int .i64)))::((.s (.o (.int .i64)))::(ru2 24 []))))))))),[],fun a H=>(⟨(rL (tLs tP) (slT a 0)),(rL (tLs tP) (slT a 9)),(toI (slT a 10))⟩,⟨(toI (slT a 3)),(toI (slT a 11))⟩)⟩],K9,[(some 0,fun p s=>⟨((eL (tLs tP) p.La0)::(.unk::(.unk::((i s.is3)::(ra 5 ((eL (tLs tP) p.pd1)::((i p.o9)::((i s.fa1)::((b (decide (s.fa1 < p.o9)))::(ra 23 [])))))))))),[]⟩)],Ob3⟩
theorem Ob4:Da3.OkM:=Lo.okM [] (by kernel_rfl) .nil rfl (.cons (fun a H=>by kernel_rfl) .nil) fun p s=>(.of @R2 (fun F _ _ _ _ _=>by unfold R2;(repeat' apply j5 (f:=F))<;>rfl) (by kernel_rfl))
structure y5 where
 Ca0:List (List Pln)
 Zd3:Int
structure k9 where
 ph:Nat
 Jb7:Int
 ns6:Nat
 eh0:List (List b7)
noncomputable def Hb4 (p:y5) (s:k9):St:=⟨(ra 6 ((.v (.slice none 0 0))::(ra 18 ((eL (tLs tP) p.Ca0)::((i p.Zd3)::((i s.Jb7)::(ra 8 []))))))),[]⟩
noncomputable def Hb5 (p:y5) (s:k9):St:=⟨(ra 6 ((.sl 0 0 s.ns6 0)::(ra 18 ((eL (tLs tP) p.Ca0)::((i p.Zd3)::((i s.Jb7)::(ra 8 []))))))),[⟨50,4,s.eh0,true,false,0⟩]⟩
noncomputable def Ob5 (p:y5) (s:k9):St:=(sel (Nat.beq s.ph 1) (Hb5 p s) (Hb4 p s))
noncomputable def B9 {α:Type} (k:k9→α) (e:Nat→α) (z:α) (p:y5) (s:k9):α:=(sl (decide (s.Jb7 < p.Zd3)) (sl (inB s.Jb7 (List.length p.Ca0)) (sl (Nat.beq (len (w8 (fun k=>(tP).row (gL tP (gL (tLs tP) p.Ca0 s.Jb7.toNat) k)) (List.range (List.length (gL (tLs tP) p.Ca0 s.Jb7.toNat))))) 0) (k ⟨0,(W (s.Jb7+1)),0,[]⟩) z) z) (e 1))
noncomputable def C0 {α:Type} (k:k9→α) (e:Nat→α) (z:α) (p:y5) (s:k9):α:=(sl (decide (s.Jb7 < p.Zd3)) (sl (inB s.Jb7 (List.length p.Ca0)) (sl (Nat.ble (s.ns6+(len (w8 (fun k=>(tP).row (gL tP (gL (tLs tP) p.Ca0 s.Jb7.toNat) k)) (List.range (List.length (gL (tLs tP) p.Ca0 s.Jb7.toNat)))))) (len s.eh0)) (k ⟨1,(W (s.Jb7+1)),(s.ns6+(len (w8 (fun k=>(tP).row (gL tP (gL (tLs tP) p.Ca0 s.Jb7.toNat) k)) (List.range (List.length (gL (tLs tP) p.Ca0 s.Jb7.toNat)))))),(app (J7 s.eh0 s.ns6) (app (w8 (fun k=>(tP).row (gL tP (gL (tLs tP) p.Ca0 s.Jb7.toNat) k)) (List.range (List.length (gL (tLs tP) p.Ca0 s.Jb7.toNat)))) (g9 s.eh0 (s.ns6+(len (w8 (fun k=>(tP).row (gL tP (gL (tLs tP) p.Ca0 s.Jb7.toNat) k)) (List.range (List.length (gL (tLs tP) p.Ca0 s.Jb7.toNat)))))))))⟩) z) z) (e 2))
noncomputable def D5 (p:y5) (s:k9):Stp k9:=(sel (Nat.beq s.ph 1) (C0 .next .exit .fail p s) (B9 .next .exit .fail p s))
noncomputable def Da4:Lo y5 k9:=⟨En Fa3,0,De5,[1,1,1,1,0,1,4,4],[6,25,26,27],.p,[⟨(ru2 6 ((.s (.o .nil))::(ru2 18 ((.s (.c 1 (nL (tLs tP))))::((.s (.o (.int .i64)))::((.s (.o (.int .i64)))::(ru2 8 []))))))),[],fun a H=>(⟨(rL (tLs tP) (slT a 25)),(toI (slT a 26))⟩,⟨0,(toI (slT a 27)),0,[]⟩)⟩,⟨(ru2 6 ((.s (.o (.sl 0 0 (some 0) none)))::(ru2 18 ((.s (.c 1 (nL (tLs tP))))::((.s (.o (.int .i64)))::((.s (.o (.int .i64)))::(ru2 8 []))))))),[⟨50,4,true,none⟩],fun a H=>(⟨(rL (tLs tP) (slT a 25)),(toI (slT a 26))⟩,⟨1,(toI (slT a 27)),(slN (slT a 6)),(elT H 0)⟩)⟩],D5,[(some 2,fun p s=>⟨(ra 6 ((.v (.slice none 0 0))::(ra 18 ((eL (tLs tP) p.Ca0)::((i p.Zd3)::((i s.Jb7)::((b (decide (s.Jb7 < p.Zd3)))::(ra 7 [])))))))),[]⟩),(some 2,fun p s=>⟨(ra 6 ((.sl 0 0 s.ns6 0)::(ra 18 ((eL (tLs tP) p.Ca0)::((i p.Zd3)::((i s.Jb7)::((b (decide (s.Jb7 < p.Zd3)))::(ra 7 [])))))))),[⟨50,4,s.eh0,true,false,0⟩]⟩)],Ob5⟩
theorem Ob6:Da4.OkM:=Lo.okM [] (by kernel_rfl) .nil rfl (.cons (fun a H=>by kernel_rfl) (.cons (fun a H=>by kernel_rfl) .nil)) fun p s=>(.sel (Nat.beq s.ph 1) (.of @C0 (fun F _ _ _ _ _=>by unfold C0;(repeat' apply j5 (f:=F))<;>rfl) (by kernel_rfl)) (.of @B9 (fun F _ _ _ _ _=>by unfold B9;(repeat' apply j5 (f:=F))<;>rfl) (by kernel_rfl)))
structure ua5 where
 alt:Nat
 ns0:Nat
 eh0:List (List b7)
noncomputable def S6 {α:Type} (kk:ua5→α) (x:List (List Pln)):α:=let t1:=(lp (K9 (⟨(rt (tLs tP) x),(rt (tLs tP) x),(↑(List.length x):Int)⟩:V9)) (⟨0,0⟩:w9));let t2:=(lp (D5 (⟨(rt (tLs tP) (rt (tLs tP) x)),(↑(List.length (rt (tLs tP) x)):Int)⟩:y5)) (⟨0,0,0,[]⟩:k9));let t3:=(lp (D5 (⟨(rt (tLs tP) (rt (tLs tP) x)),(↑(List.length (rt (tLs tP) x)):Int)⟩:y5)) (⟨1,0,0,(List.replicate t1.2.is3.toNat Hd4)⟩:k9));(sl ((cnE (tLs tP) x)&&((cnE (tLs tP) x)&&true)) (sl (Nat.beq t1.1 1) (sl (t1.2.is3==0) (sl ((cnE (tLs tP) (rt (tLs tP) x))&&true) (sl (Nat.beq t2.1 1) (kk ⟨1,0,[]⟩) (sl (Nat.beq t2.1 2) (kk ⟨2,t2.2.ns6,t2.2.eh0⟩) (kk ⟨0,0,[]⟩))) (kk ⟨0,0,[]⟩)) (sl (Bool.and (decide (0 < t1.2.is3)) (Nat.ble (t1.2.is3.toNat*32) room)) (sl ((cnE (tLs tP) (rt (tLs tP) x))&&true) (sl (Nat.beq t3.1 1) (kk ⟨1,0,[]⟩) (sl (Nat.beq t3.1 2) (kk ⟨2,t3.2.ns6,t3.2.eh0⟩) (kk ⟨0,0,[]⟩))) (kk ⟨0,0,[]⟩)) (kk ⟨0,0,[]⟩))) (kk ⟨0,0,[]⟩)) (kk ⟨0,0,[]⟩))
noncomputable def ua6 (x:List (List Pln)):ua5:=S6 (fun r=>r) x
noncomputable def Fa4 (r:ua5):DT (b7×List b8):=(.ite (Nat.beq r.alt 1) (.ret ((.v (.slice none 0 0)),[])) (.ite (Nat.beq r.alt 2) (.ret ((.sl 0 0 r.ns0 0),[⟨50,4,r.eh0,true,false,0⟩])) .fail))
theorem dc6 {α β:Type} (F:α→β) (kk:ua5→α) (x:List (List Pln)):F (S6 kk x)=S6 (fun r=>F (kk r)) x:=by unfold S6;(repeat' apply j5 (f:=F))<;>rfl
noncomputable def gb2:Sum:=S5 (Fa1 (tLs tP)) (fun x=>Fa4 (ua6 x))
theorem Xb9:g8 prog G 169 gb2:=lb0 (bd Hf6 Sb1) fun x=>ke6 (.s .p (.s .p (.s (.s .p (.b (.u Da3.lsM))) (.s .p (.s (.s .p (.b (.u Da4.lsM))) .p))))) [Da3.prM,Da4.prM] (by kernel_rfl) (.cons Ob4 (.cons Ob6 .nil)) (Eq.trans (b:=S6 (fun r=>(Fa4 r).run) x) (by kernel_rfl) (dc6 (fun r=>(Fa4 r).run) (fun r=>r) x).symm)
noncomputable def ee3:List (Nat×Sum):=[(169,gb2)]
theorem Sd9:i4 prog G ee3:=⟨Xb9,trivial⟩
noncomputable def Sb2 (x:List (List Pln)):Option (b7×List b8):=let t1:=(ua6 (rt (tLs tP) x));(sl (okE (tLs tP) x) (sl (Nat.beq t1.alt 1) (some ((.sl 0 0 6 0),[⟨50,4,[[(i 1),(i 0),(i 0),(i 24)],[(i (-1)),(i 0),(i 0),(i 24)],[(i 0),(i 1),(i 0),(i 24)],[(i 0),(i (-1)),(i 0),(i 24)],[(i 0),(i 0),(i 1),(i 24)],[(i 0),(i 0),(i (-1)),(i 24)]],true,false,0⟩])) (sl (Nat.beq t1.alt 2) (sl (Nat.beq t1.ns0 (len t1.eh0)&&Nat.ble ((t1.ns0+1)*32) room) (sl (Nat.beq (t1.ns0+1) (len (app t1.eh0 [[(i 1),(i 0),(i 0),(i 24)]]))&&Nat.ble (((t1.ns0+1)+1)*32) room) (sl (Nat.beq ((t1.ns0+1)+1) (len (app (app t1.eh0 [[(i 1),(i 0),(i 0),(i 24)]]) [[(i (-1)),(i 0),(i 0),(i 24)]]))&&Nat.ble ((((t1.ns0+1)+1)+1)*32) room) (sl (Nat.beq (((t1.ns0+1)+1)+1) (len (app (app (app t1.eh0 [[(i 1),(i 0),(i 0),(i 24)]]) [[(i (-1)),(i 0),(i 0),(i 24)]]) [[(i 0),(i 1),(i 0),(i 24)]]))&&Nat.ble (((((t1.ns0+1)+1)+1)+1)*32) room) (sl (Nat.beq ((((t1.ns0+1)+1)+1)+1) (len (app (app (app (app t1.eh0 [[(i 1),(i 0),(i 0),(i 24)]]) [[(i (-1)),(i 0),(i 0),(i 24)]]) [[(i 0),(i 1),(i 0),(i 24)]]) [[(i 0),(i (-1)),(i 0),(i 24)]]))&&Nat.ble ((((((t1.ns0+1)+1)+1)+1)+1)*32) room) (sl (Nat.beq (((((t1.ns0+1)+1)+1)+1)+1) (len (app (app (app (app (app t1.eh0 [[(i 1),(i 0),(i 0),(i 24)]]) [[(i (-1)),(i 0),(i 0),(i 24)]]) [[(i 0),(i 1),(i 0),(i 24)]]) [[(i 0),(i (-1)),(i 0),(i 24)]]) [[(i 0),(i 0),(i 1),(i 24)]]))&&Nat.ble (((((((t1.ns0+1)+1)+1)+1)+1)+1)*32) room) (some ((.sl 0 0 ((((((t1.ns0+1)+1)+1)+1)+1)+1) 0),[⟨50,4,(app (app (app (app (app (app t1.eh0 [[(i 1),(i 0),(i 0),(i 24)]]) [[(i (-1)),(i 0),(i 0),(i 24)]]) [[(i 0),(i 1),(i 0),(i 24)]]) [[(i 0),(i (-1)),(i 0),(i 24)]]) [[(i 0),(i 0),(i 1),(i 24)]]) [[(i 0),(i 0),(i (-1)),(i 24)]]),true,false,0⟩])) none) none) none) none) none) none) none)) none)
noncomputable def ib6 (x:List (List Pln)):List Pln:=aa3 (one (r1L tP)) (Sb2 x)
noncomputable def ib7 (x:List (List Pln)):Bool:=okO (one (r1L tP)) (Sb2 x)
noncomputable def pc9:Sum:=S5 (Fa1 (tLs tP)) (fun x=>.guard (ib7 x) (.ret ((one (r1L tP)).enc (ib6 x),[])))
theorem yc0:g8 prog G 88 pc9:=Pa9 (bd b88 Sd9) (one (r1L tP)) (o:=Sb2) fun x=>q8 (by kernel_rfl)
structure ba4 where
 La0:List (List Pln)
noncomputable def Na1:List (Nat×Sum):=[(168,kc0)]
theorem vb1:i4 prog G Na1:=⟨Wc1,trivial⟩
structure M1 where
 La0:List (List Pln)
 is7:Int
structure o4 where
 is8:Int
noncomputable def qb8 (p:M1) (s:o4):St:=⟨((eL (tLs tP) p.La0)::((.fn 168 [])::(ra 5 ((i p.is7)::((i s.is8)::(ra 10 [])))))),[]⟩
noncomputable def G8 {α:Type} (k:o4→α) (e:Nat→α) (z:α) (p:M1) (s:o4):α:=let t1:=(cb7 (rt tP (gL (tLs tP) p.La0 s.is8.toNat)));(sl (decide (s.is8 < p.is7)) (sl (inB s.is8 (List.length p.La0)) (sl (okE tP (gL (tLs tP) p.La0 s.is8.toNat)) (sl (cb8 (rt tP (gL (tLs tP) p.La0 s.is8.toNat))) (sl t1 (e 1) (k ⟨(W (s.is8+1))⟩)) z) z) z) (e 2))
noncomputable def K2 (p:M1) (s:o4):Stp o4:=G8 .next .exit .fail p s
noncomputable def na9:Lo M1 o4:=⟨En Na1,0,ef0,[1,0,1,4,4],[0,1,7,8],.p,[⟨((.s (.c 1 (nL (tLs tP))))::((.s (.o (.fn 168)))::(ru2 5 ((.s (.o (.int .i64)))::((.s (.o (.int .i64)))::(ru2 10 [])))))),[],fun a H=>(⟨(rL (tLs tP) (slT a 0)),(toI (slT a 7))⟩,⟨(toI (slT a 8))⟩)⟩],K2,[(none,fun p s=>⟨[(i s.is8)],[]⟩),(some 0,fun p s=>⟨((eL (tLs tP) p.La0)::((.fn 168 [])::(ra 5 ((i p.is7)::((i s.is8)::((b (decide (s.is8 < p.is7)))::(ra 9 []))))))),[]⟩)],qb8⟩
theorem qb9:na9.Ok:=Lo.ok [] (by kernel_rfl) .nil rfl (.cons (fun a H=>by kernel_rfl) .nil) fun p s=>(.of @G8 (fun F _ _ _ _ _=>by unfold G8;(repeat' apply j5 (f:=F))<;>rfl) (by kernel_rfl))
structure ba5 where
 alt:Nat
 is0:Int
noncomputable def I0 {α:Type} (kk:ba5→α) (x:ba4):α:=let t1:=(lp (K2 (⟨(rt (tLs tP) x.La0),(↑(List.length x.La0):Int)⟩:M1)) (⟨0⟩:o4));(sl ((cnE (tLs tP) x.La0)&&true) (sl (Nat.beq t1.1 1) (kk ⟨1,t1.2.is8⟩) (sl (Nat.beq t1.1 2) (kk ⟨1,(-1)⟩) (kk ⟨0,0⟩))) (kk ⟨0,0⟩))
noncomputable def va4 (x:ba4):ba5:=I0 (fun r=>r) x
noncomputable def sa6 (x:ba4) (r:ba5):DT (b7×List b8):=(.ite (Nat.beq r.alt 1) (.ret ((i r.is0),[])) .fail)
theorem Hb6 {α β:Type} (F:α→β) (kk:ba5→α) (x:ba4):F (I0 kk x)=I0 (fun r=>F (kk r)) x:=by unfold I0;(repeat' apply j5 (f:=F))<;>rfl
noncomputable def Ra3:Sum:=za8 ⟨[(.s (.c 1 (nL (tLs tP)))),(.s (.o (.fn 168)))],[],fun a H=>(⟨(rL (tLs tP) (slT a 0))⟩,())⟩ (fun x=>sa6 x (va4 x))
theorem Bb4:g8 prog G 207 Ra3:=w7 (enc:=fun x=>⟨[(eL (tLs tP) x.La0),(.fn 168 [])],[]⟩) (fun a H=>by kernel_rfl) (bd Jf3 vb1) fun x=>Ma1 (.s .p (.s (.s .p (.b (.u na9.ls))) .p)) [na9.pr] (by kernel_rfl) (.cons qb9 .nil) (Eq.trans (b:=I0 (fun r=>(sa6 x r).run) x) (by kernel_rfl) (Hb6 (fun r=>(sa6 x r).run) (fun r=>r) x).symm)
structure U2 where
 La0:List (List Pln)
noncomputable def nb7:List (Nat×Sum):=[(207,Ra3)]
theorem ib8:i4 prog G nb7:=⟨Bb4,trivial⟩
structure U3 where
 alt:Nat
 bs0:Bool
noncomputable def C6 {α:Type} (kk:U3→α) (x:U2):α:=let t1:=(va4 ⟨(rt (tLs tP) x.La0)⟩);(sl ((cnE (tLs tP) x.La0)&&true) (sl (Nat.beq t1.alt 1) (kk ⟨1,(decide (t1.is0≥0))⟩) (kk ⟨0,false⟩)) (kk ⟨0,false⟩))
noncomputable def la7 (x:U2):U3:=C6 (fun r=>r) x
noncomputable def ga6 (x:U2) (r:U3):DT (b7×List b8):=(.ite (Nat.beq r.alt 1) (.ret ((b r.bs0),[])) .fail)
theorem rb0 {α β:Type} (F:α→β) (kk:U3→α) (x:U2):F (C6 kk x)=C6 (fun r=>F (kk r)) x:=by unfold C6;(repeat' apply j5 (f:=F))<;>rfl
noncomputable def Ha6:Sum:=za8 ⟨[(.s (.c 1 (nL (tLs tP)))),(.s (.o (.fn 168)))],[],fun a H=>(⟨(rL (tLs tP) (slT a 0))⟩,())⟩ (fun x=>ga6 x (la7 x))
theorem nb8:g8 prog G 157 Ha6:=w7 (enc:=fun x=>⟨[(eL (tLs tP) x.La0),(.fn 168 [])],[]⟩) (fun a H=>by kernel_rfl) (bd Gf7 ib8) fun x=>q8 (Eq.trans (b:=C6 (fun r=>(ga6 x r).run) x) (by kernel_rfl) (rb0 (fun r=>(ga6 x r).run) (fun r=>r) x).symm)
noncomputable def rd7:List (Nat×Sum):=[(157,Ha6)]
theorem id4:i4 prog G rd7:=⟨nb8,trivial⟩
noncomputable def cb9 (x:List (List Pln)):Option (b7×List b8):=let t1:=(la7 ⟨(rt (tLs tP) x)⟩);(sl ((cnE (tLs tP) x)&&true) (sl (Nat.beq t1.alt 1) (some ((b (!t1.bs0)),[])) none) none)
noncomputable def oa0 (x:List (List Pln)):Bool:=aa3 (one r1B) (cb9 x)
noncomputable def oa1 (x:List (List Pln)):Bool:=okO (one r1B) (cb9 x)
noncomputable def Qa3:Sum:=S5 (Fa1 (tLs tP)) (fun x=>.guard (oa1 x) (.ret ((one r1B).enc (oa0 x),[])))
theorem Ua0:g8 prog G 87 Qa3:=Pa9 (bd b87 id4) (one r1B) (o:=cb9) fun x=>q8 (by kernel_rfl)
structure oa2 where
 va0:Int
 va1:Int
 va2:Int
 pb4:Int
 e8:Int
 c7:Int
 f0:Int
 d9:Int
noncomputable def Sb3:List (Nat×Sum):=[(102,Lb1)]
theorem Ob7:i4 prog G Sb3:=⟨Xb2,trivial⟩
structure Y3 where
 bs0:Bool
noncomputable def Y4 {α:Type} (kk:Y3→α) (x:oa2):α:=let t1:=(Ea9 (⟨(⟨x.e8,x.c7,x.f0⟩:V3),x.d9⟩:Pln) (⟨x.va0,x.va1,x.va2,x.pb4⟩:Pt));(kk ⟨(decide (t1 > 0))⟩)
noncomputable def Fa5 (x:oa2):Y3:=Y4 (fun r=>r) x
noncomputable def Da5 (x:oa2) (r:Y3):DT (b7×List b8):=.ret ((b r.bs0),[⟨0,4,[[(i x.e8),(i x.c7),(i x.f0),(i x.d9)]],true,false,0⟩])
theorem Yb0 {α β:Type} (F:α→β) (kk:Y3→α) (x:oa2):F (Y4 kk x)=Y4 (fun r=>F (kk r)) x:=by unfold Y4;(repeat' apply j5 (f:=F))<;>rfl
noncomputable def db0:Sum:=za8 ⟨[(.agg [(.o (.int .i64)),(.o (.int .i64)),(.o (.int .i64)),(.o (.int .i64))]),(.s (.o (.ptr 0 0 0 0)))],[⟨0,4,true,(some [[(.o (.int .i64)),(.o (.int .i64)),(.o (.int .i64)),(.o (.int .i64))]])⟩],fun a H=>(⟨(toI (slT (cellsOf (slT a 0)) 0)),(toI (slT (cellsOf (slT a 0)) 1)),(toI (slT (cellsOf (slT a 0)) 2)),(toI (slT (cellsOf (slT a 0)) 3)),(toI (slT (rwT (elT H 0) 0) 0)),(toI (slT (rwT (elT H 0) 0) 1)),(toI (slT (rwT (elT H 0) 0) 2)),(toI (slT (rwT (elT H 0) 0) 3))⟩,())⟩ (fun x=>Da5 x (Fa5 x))
theorem Sb4:g8 prog G 176 db0:=w7 (enc:=fun x=>⟨[(.agg [(i x.va0),(i x.va1),(i x.va2),(i x.pb4)]),(.ptr 0 0 0 0)],[⟨0,4,[[(i x.e8),(i x.c7),(i x.f0),(i x.d9)]],true,false,0⟩]⟩) (fun a H=>by kernel_rfl) (bd If1 Ob7) fun x=>q8 (Eq.trans (b:=Y4 (fun r=>(Da5 x r).run) x) (by kernel_rfl) (Yb0 (fun r=>(Da5 x r).run) (fun r=>r) x).symm)
structure fa7 where
 Q0:List Pt
 e8:Int
 c7:Int
 f0:Int
 d9:Int
noncomputable def Ra4:List (Nat×Sum):=[(176,db0)]
theorem Bb5:i4 prog G Ra4:=⟨Sb4,trivial⟩
structure O2 where
 Q0:List Pt
 is7:Int
 e8:Int
 c7:Int
 f0:Int
 d9:Int
structure p7 where
 is8:Int
noncomputable def vb2 (p:O2) (s:p7):St:=⟨((eL tX p.Q0)::((.fn 176 [(.ptr 0 0 0 0)])::(ra 5 ((i p.is7)::((i s.is8)::(ra 10 [])))))),[⟨0,4,[[(i p.e8),(i p.c7),(i p.f0),(i p.d9)]],true,false,0⟩]⟩
noncomputable def K3 {α:Type} (k:p7→α) (e:Nat→α) (z:α) (p:O2) (s:p7):α:=let t1:=(Fa5 ⟨(gL tX p.Q0 s.is8.toNat).px,(gL tX p.Q0 s.is8.toNat).py,(gL tX p.Q0 s.is8.toNat).pz,(gL tX p.Q0 s.is8.toNat).pw,p.e8,p.c7,p.f0,p.d9⟩);(sl (decide (s.is8 < p.is7)) (sl (inB s.is8 (List.length p.Q0)) (sl t1.bs0 (e 1) (k ⟨(W (s.is8+1))⟩)) z) (e 2))
noncomputable def M2 (p:O2) (s:p7):Stp p7:=K3 .next .exit .fail p s
noncomputable def sa7:Lo O2 p7:=⟨En Ra4,1,De6,[1,0,1,4,4],[0,1,7,8],.p,[⟨((.s (.c 4 (nL tX)))::((.fn 176 [(.o (.ptr 0 0 0 0))])::(ru2 5 ((.s (.o (.int .i64)))::((.s (.o (.int .i64)))::(ru2 10 [])))))),[⟨0,4,true,(some [[(.o (.int .i64)),(.o (.int .i64)),(.o (.int .i64)),(.o (.int .i64))]])⟩],fun a H=>(⟨(rL tX (slT a 0)),(toI (slT a 7)),(toI (slT (rwT (elT H 0) 0) 0)),(toI (slT (rwT (elT H 0) 0) 1)),(toI (slT (rwT (elT H 0) 0) 2)),(toI (slT (rwT (elT H 0) 0) 3))⟩,⟨(toI (slT a 8))⟩)⟩],M2,[(none,fun p s=>⟨[(i s.is8)],[⟨0,4,[[(i p.e8),(i p.c7),(i p.f0),(i p.d9)]],true,false,0⟩]⟩),(some 0,fun p s=>⟨((eL tX p.Q0)::((.fn 176 [(.ptr 0 0 0 0)])::(ra 5 ((i p.is7)::((i s.is8)::((b (decide (s.is8 < p.is7)))::(ra 9 []))))))),[⟨0,4,[[(i p.e8),(i p.c7),(i p.f0),(i p.d9)]],true,false,0⟩]⟩)],vb2⟩
theorem vb3:sa7.Ok:=Lo.ok [] (by kernel_rfl) .nil rfl (.cons (fun a H=>by kernel_rfl) .nil) fun p s=>(.of @K3 (fun F _ _ _ _ _=>by unfold K3;(repeat' apply j5 (f:=F))<;>rfl) (by kernel_rfl))
structure fa8 where
 alt:Nat
 is0:Int
noncomputable def L0 {α:Type} (kk:fa8→α) (x:fa7):α:=let t1:=(lp (M2 (⟨(rt tX x.Q0),(↑(List.length x.Q0):Int),x.e8,x.c7,x.f0,x.d9⟩:O2)) (⟨0⟩:p7));(sl ((cnE tX x.Q0)&&true) (sl (Nat.beq t1.1 1) (kk ⟨1,t1.2.is8⟩) (sl (Nat.beq t1.1 2) (kk ⟨1,(-1)⟩) (kk ⟨0,0⟩))) (kk ⟨0,0⟩))
noncomputable def Aa0 (x:fa7):fa8:=L0 (fun r=>r) x
noncomputable def va5 (x:fa7) (r:fa8):DT (b7×List b8):=(.ite (Nat.beq r.alt 1) (.ret ((i r.is0),[⟨0,4,[[(i x.e8),(i x.c7),(i x.f0),(i x.d9)]],true,false,0⟩])) .fail)
theorem Ob8 {α β:Type} (F:α→β) (kk:fa8→α) (x:fa7):F (L0 kk x)=L0 (fun r=>F (kk r)) x:=by unfold L0;(repeat' apply j5 (f:=F))<;>rfl
noncomputable def Ua1:Sum:=za8 ⟨[(.s (.c 4 (nL tX))),(.fn 176 [(.o (.ptr 0 0 0 0))])],[⟨0,4,true,(some [[(.o (.int .i64)),(.o (.int .i64)),(.o (.int .i64)),(.o (.int .i64))]])⟩],fun a H=>(⟨(rL tX (slT a 0)),(toI (slT (rwT (elT H 0) 0) 0)),(toI (slT (rwT (elT H 0) 0) 1)),(toI (slT (rwT (elT H 0) 0) 2)),(toI (slT (rwT (elT H 0) 0) 3))⟩,())⟩ (fun x=>va5 x (Aa0 x))
theorem Hb7:g8 prog G 185 Ua1:=w7 (enc:=fun x=>⟨[(eL tX x.Q0),(.fn 176 [(.ptr 0 0 0 0)])],[⟨0,4,[[(i x.e8),(i x.c7),(i x.f0),(i x.d9)]],true,false,0⟩]⟩) (fun a H=>by kernel_rfl) (bd yf4 Bb5) fun x=>Ma1 (.s .p (.s (.s .p (.b (.u sa7.ls))) .p)) [sa7.pr] (by kernel_rfl) (.cons vb3 .nil) (Eq.trans (b:=L0 (fun r=>(va5 x r).run) x) (by kernel_rfl) (Ob8 (fun r=>(va5 x r).run) (fun r=>r) x).symm)
structure X0 where
 Q0:List Pt
 e8:Int
 c7:Int
 f0:Int
 d9:Int
noncomputable def rb1:List (Nat×Sum):=[(185,Ua1)]
theorem nb9:i4 prog G rb1:=⟨Hb7,trivial⟩
structure X1 where
 alt:Nat
 bs0:Bool
noncomputable def D8 {α:Type} (kk:X1→α) (x:X0):α:=let t1:=(Aa0 ⟨(rt tX x.Q0),x.e8,x.c7,x.f0,x.d9⟩);(sl ((cnE tX x.Q0)&&true) (sl (Nat.beq t1.alt 1) (kk ⟨1,(decide (t1.is0≥0))⟩) (kk ⟨0,false⟩)) (kk ⟨0,false⟩))
noncomputable def oa3 (x:X0):X1:=D8 (fun r=>r) x
noncomputable def la8 (x:X0) (r:X1):DT (b7×List b8):=(.ite (Nat.beq r.alt 1) (.ret ((b r.bs0),[⟨0,4,[[(i x.e8),(i x.c7),(i x.f0),(i x.d9)]],true,false,0⟩])) .fail)
theorem vb4 {α β:Type} (F:α→β) (kk:X1→α) (x:X0):F (D8 kk x)=D8 (fun r=>F (kk r)) x:=by unfold D8;(repeat' apply j5 (f:=F))<;>rfl
noncomputable def La2:Sum:=za8 ⟨[(.s (.c 4 (nL tX))),(.fn 176 [(.o (.ptr 0 0 0 0))])],[⟨0,4,true,(some [[(.o (.int .i64)),(.o (.int .i64)),(.o (.int .i64)),(.o (.int .i64))]])⟩],fun a H=>(⟨(rL tX (slT a 0)),(toI (slT (rwT (elT H 0) 0) 0)),(toI (slT (rwT (elT H 0) 0) 1)),(toI (slT (rwT (elT H 0) 0) 2)),(toI (slT (rwT (elT H 0) 0) 3))⟩,())⟩ (fun x=>la8 x (oa3 x))
theorem rb2:g8 prog G 113 La2:=w7 (enc:=fun x=>⟨[(eL tX x.Q0),(.fn 176 [(.ptr 0 0 0 0)])],[⟨0,4,[[(i x.e8),(i x.c7),(i x.f0),(i x.d9)]],true,false,0⟩]⟩) (fun a H=>by kernel_rfl) (bd yf2 nb9) fun x=>q8 (Eq.trans (b:=D8 (fun r=>(la8 x r).run) x) (by kernel_rfl) (vb4 (fun r=>(la8 x r).run) (fun r=>r) x).symm)
structure ya4 where
 va0:Int
 va1:Int
 va2:Int
 pb4:Int
 f9:List Pt
noncomputable def dc7:List (Nat×Sum):=[(113,La2)]
theorem Yb1:i4 prog G dc7:=⟨rb2,trivial⟩
structure ga7 where
 alt:Nat
 bs0:Bool
noncomputable def W0 {α:Type} (kk:ga7→α) (x:ya4):α:=let t1:=(oa3 ⟨(rt tX x.f9),x.va0,x.va1,x.va2,x.pb4⟩);(sl ((cnE tX x.f9)&&true) (sl (Nat.beq t1.alt 1) (kk ⟨1,(!t1.bs0)⟩) (kk ⟨0,false⟩)) (kk ⟨0,false⟩))
noncomputable def ya5 (x:ya4):ga7:=W0 (fun r=>r) x
noncomputable def Ka5 (x:ya4) (r:ga7):DT (b7×List b8):=(.ite (Nat.beq r.alt 1) (.ret ((b r.bs0),[⟨0,1,[[(eL tX x.f9)]],true,false,0⟩])) .fail)
theorem kc2 {α β:Type} (F:α→β) (kk:ga7→α) (x:ya4):F (W0 kk x)=W0 (fun r=>F (kk r)) x:=by unfold W0;(repeat' apply j5 (f:=F))<;>rfl
noncomputable def ob0:Sum:=za8 ⟨[(.agg [(.o (.int .i64)),(.o (.int .i64)),(.o (.int .i64)),(.o (.int .i64))]),(.s (.o (.ptr 0 0 0 0)))],[⟨0,1,true,(some [[(.c 4 (nL tX))]])⟩],fun a H=>(⟨(toI (slT (cellsOf (slT a 0)) 0)),(toI (slT (cellsOf (slT a 0)) 1)),(toI (slT (cellsOf (slT a 0)) 2)),(toI (slT (cellsOf (slT a 0)) 3)),(rL tX (slT (rwT (elT H 0) 0) 0))⟩,())⟩ (fun x=>Ka5 x (ya5 x))
theorem dc8:g8 prog G 175 ob0:=w7 (enc:=fun x=>⟨[(.agg [(i x.va0),(i x.va1),(i x.va2),(i x.pb4)]),(.ptr 0 0 0 0)],[⟨0,1,[[(eL tX x.f9)]],true,false,0⟩]⟩) (fun a H=>by kernel_rfl) (bd If0 Yb1) fun x=>q8 (Eq.trans (b:=W0 (fun r=>(Ka5 x r).run) x) (by kernel_rfl) (kc2 (fun r=>(Ka5 x r).run) (fun r=>r) x).symm)
structure ba6 where
 l0:List Pln
 f9:List Pt
noncomputable def Na2:List (Nat×Sum):=[(175,ob0)]
theorem vb5:i4 prog G Na2:=⟨dc8,trivial⟩
structure M3 where
 l0:List Pln
 is7:Int
structure o5 where
 is8:Int
 f9:List Pt
noncomputable def rb3 (p:M3) (s:o5):St:=⟨((eL tP p.l0)::((.fn 175 [(.ptr 0 0 0 0)])::(ra 5 ((i p.is7)::((i s.is8)::(ra 10 [])))))),[⟨0,1,[[(eL tX s.f9)]],true,false,0⟩]⟩
noncomputable def G9 {α:Type} (k:o5→α) (e:Nat→α) (z:α) (p:M3) (s:o5):α:=let t1:=(ya5 ⟨(gL tP p.l0 s.is8.toNat).n.x,(gL tP p.l0 s.is8.toNat).n.y,(gL tP p.l0 s.is8.toNat).n.z,(gL tP p.l0 s.is8.toNat).b,(rt tX s.f9)⟩);(sl (decide (s.is8 < p.is7)) (sl (inB s.is8 (List.length p.l0)) (sl ((cnE tX s.f9)&&true) (sl (Nat.beq t1.alt 1) (sl t1.bs0 (e 1) (k ⟨(W (s.is8+1)),(rt tX s.f9)⟩)) z) z) z) (e 2))
noncomputable def K4 (p:M3) (s:o5):Stp o5:=G9 .next .exit .fail p s
noncomputable def oa4:Lo M3 o5:=⟨En Na2,1,ef2,[1,0,1,4,4],[0,1,7,8],.p,[⟨((.s (.c 4 (nL tP)))::((.fn 175 [(.o (.ptr 0 0 0 0))])::(ru2 5 ((.s (.o (.int .i64)))::((.s (.o (.int .i64)))::(ru2 10 [])))))),[⟨0,1,true,(some [[(.c 4 (nL tX))]])⟩],fun a H=>(⟨(rL tP (slT a 0)),(toI (slT a 7))⟩,⟨(toI (slT a 8)),(rL tX (slT (rwT (elT H 0) 0) 0))⟩)⟩],K4,[(none,fun p s=>⟨[(i s.is8)],[⟨0,1,[[(eL tX (rt tX s.f9))]],true,false,0⟩]⟩),(some 0,fun p s=>⟨((eL tP p.l0)::((.fn 175 [(.ptr 0 0 0 0)])::(ra 5 ((i p.is7)::((i s.is8)::((b (decide (s.is8 < p.is7)))::(ra 9 []))))))),[⟨0,1,[[(eL tX s.f9)]],true,false,0⟩]⟩)],rb3⟩
theorem rb4:oa4.Ok:=Lo.ok [] (by kernel_rfl) .nil rfl (.cons (fun a H=>by kernel_rfl) .nil) fun p s=>(.of @G9 (fun F _ _ _ _ _=>by unfold G9;(repeat' apply j5 (f:=F))<;>rfl) (by kernel_rfl))
structure ba7 where
 alt:Nat
 is0:Int
 f9:List Pt
noncomputable def I1 {α:Type} (kk:ba7→α) (x:ba6):α:=let t1:=(lp (K4 (⟨(rt tP x.l0),(↑(List.length x.l0):Int)⟩:M3)) (⟨0,(rt tX x.f9)⟩:o5));(sl ((cnE tP x.l0)&&((cnE tX x.f9)&&true)) (sl (Nat.beq t1.1 1) (kk ⟨1,t1.2.is8,(rt tX t1.2.f9)⟩) (sl (Nat.beq t1.1 2) (kk ⟨1,(-1),t1.2.f9⟩) (kk ⟨0,0,[]⟩))) (kk ⟨0,0,[]⟩))
noncomputable def va6 (x:ba6):ba7:=I1 (fun r=>r) x
noncomputable def sa8 (x:ba6) (r:ba7):DT (b7×List b8):=(.ite (Nat.beq r.alt 1) (.ret ((i r.is0),[⟨0,1,[[(eL tX r.f9)]],true,false,0⟩])) .fail)
theorem Hb8 {α β:Type} (F:α→β) (kk:ba7→α) (x:ba6):F (I1 kk x)=I1 (fun r=>F (kk r)) x:=by unfold I1;(repeat' apply j5 (f:=F))<;>rfl
noncomputable def Ra5:Sum:=za8 ⟨[(.s (.c 4 (nL tP))),(.fn 175 [(.o (.ptr 0 0 0 0))])],[⟨0,1,true,(some [[(.c 4 (nL tX))]])⟩],fun a H=>(⟨(rL tP (slT a 0)),(rL tX (slT (rwT (elT H 0) 0) 0))⟩,())⟩ (fun x=>sa8 x (va6 x))
theorem Bb6:g8 prog G 221 Ra5:=w7 (enc:=fun x=>⟨[(eL tP x.l0),(.fn 175 [(.ptr 0 0 0 0)])],[⟨0,1,[[(eL tX x.f9)]],true,false,0⟩]⟩) (fun a H=>by kernel_rfl) (bd Kf2 vb5) fun x=>Ma1 (.s .p (.s (.s .p (.b (.u oa4.ls))) .p)) [oa4.pr] (by kernel_rfl) (.cons rb4 .nil) (Eq.trans (b:=I1 (fun r=>(sa8 x r).run) x) (by kernel_rfl) (Hb8 (fun r=>(sa8 x r).run) (fun r=>r) x).symm)
structure U4 where
 l0:List Pln
 f9:List Pt
noncomputable def ob1:List (Nat×Sum):=[(221,Ra5)]
theorem ib9:i4 prog G ob1:=⟨Bb6,trivial⟩
structure U5 where
 alt:Nat
 bs0:Bool
 f9:List Pt
noncomputable def C7 {α:Type} (kk:U5→α) (x:U4):α:=let t1:=(va6 ⟨(rt tP x.l0),(rt tX x.f9)⟩);(sl ((cnE tP x.l0)&&((cnE tX x.f9)&&true)) (sl (Nat.beq t1.alt 1) (kk ⟨1,(decide (t1.is0≥0)),t1.f9⟩) (kk ⟨0,false,[]⟩)) (kk ⟨0,false,[]⟩))
noncomputable def la9 (x:U4):U5:=C7 (fun r=>r) x
noncomputable def ga8 (x:U4) (r:U5):DT (b7×List b8):=(.ite (Nat.beq r.alt 1) (.ret ((b r.bs0),[⟨0,1,[[(eL tX r.f9)]],true,false,0⟩])) .fail)
theorem rb5 {α β:Type} (F:α→β) (kk:U5→α) (x:U4):F (C7 kk x)=C7 (fun r=>F (kk r)) x:=by unfold C7;(repeat' apply j5 (f:=F))<;>rfl
noncomputable def Ha7:Sum:=za8 ⟨[(.s (.c 4 (nL tP))),(.fn 175 [(.o (.ptr 0 0 0 0))])],[⟨0,1,true,(some [[(.c 4 (nL tX))]])⟩],fun a H=>(⟨(rL tP (slT a 0)),(rL tX (slT (rwT (elT H 0) 0) 0))⟩,())⟩ (fun x=>ga8 x (la9 x))
theorem ob2:g8 prog G 174 Ha7:=w7 (enc:=fun x=>⟨[(eL tP x.l0),(.fn 175 [(.ptr 0 0 0 0)])],[⟨0,1,[[(eL tX x.f9)]],true,false,0⟩]⟩) (fun a H=>by kernel_rfl) (bd Hf9 ib9) fun x=>q8 (Eq.trans (b:=C7 (fun r=>(ga8 x r).run) x) (by kernel_rfl) (rb5 (fun r=>(ga8 x r).run) (fun r=>r) x).symm)
noncomputable def rc8:List (Nat×Sum):=[(89,Ka4),(174,Ha7)]
theorem kc3:i4 prog G rc8:=⟨bb9,ob2,trivial⟩
noncomputable def sa9 (x:List Pln):Option (b7×List b8):=let t1:=(da3 (rt tP x));let t2:=(la9 ⟨(rt tP x),(rt tX t1)⟩);(sl (okE tP x) (sl (da4 (rt tP x)) (sl ((cnE tP x)&&((cnE tX t1)&&true)) (sl (Nat.beq t2.alt 1) (some ((b (!t2.bs0)),[])) none) none) none) none)
noncomputable def ta0 (x:List Pln):Bool:=aa3 (one r1B) (sa9 x)
noncomputable def ta1 (x:List Pln):Bool:=okO (one r1B) (sa9 x)
noncomputable def Ya0:Sum:=S5 (Fa1 tP) (fun x=>.guard (ta1 x) (.ret ((one r1B).enc (ta0 x),[])))
theorem ub2:g8 prog G 92 Ya0:=Pa9 (bd b92 kc3) (one r1B) (o:=sa9) fun x=>q8 (by kernel_rfl)
noncomputable def id5:List (Nat×Sum):=[(87,Qa3),(88,pc9),(89,Ka4)]
theorem Wc2:i4 prog G id5:=⟨Ua0,yc0,bb9,trivial⟩
noncomputable def Ua2 (x:List Pln):Option (b7×List b8):=let t1:=(oa0 [(rt tP x)]);let t2:=(ib6 [(rt tP x)]);let t3:=(da3 (rt tP t2));(sl ((okE tP x)&&true) (sl (oa1 [(rt tP x)]) (sl (!t1) (some ((.v (.slice none 0 0)),[])) (sl ((okE tP x)&&true) (sl (ib7 [(rt tP x)]) (sl (okE tP t2) (sl (da4 (rt tP t2)) (some ((eL tX t3),[])) none) none) none) none)) none) none)
noncomputable def T0 (x:List Pln):List Pt:=aa3 (one (r1L tX)) (Ua2 x)
noncomputable def T1 (x:List Pln):Bool:=okO (one (r1L tX)) (Ua2 x)
noncomputable def qa8:Sum:=S5 (Fa1 tP) (fun x=>.guard (T1 x) (.ret ((one (r1L tX)).enc (T0 x),[])))
theorem ta2:g8 prog G 18 qa8:=Pa9 (bd b18 Wc2) (one (r1L tX)) (o:=Ua2) fun x=>q8 (by kernel_rfl)
noncomputable def Hd5:List (Nat×Sum):=[(87,Qa3),(88,pc9),(92,Ya0)]
theorem rd8:i4 prog G Hd5:=⟨Ua0,yc0,ub2,trivial⟩
noncomputable def ob3 (x:List Pln):Option (b7×List b8):=let t1:=(oa0 [(rt tP x)]);let t2:=(ib6 [(rt tP x)]);let t3:=(ta0 (rt tP t2));(sl ((okE tP x)&&true) (sl (oa1 [(rt tP x)]) (sl t1 (sl ((okE tP x)&&true) (sl (ib7 [(rt tP x)]) (sl (okE tP t2) (sl (ta1 (rt tP t2)) (some ((b t3),[])) none) none) none) none) (some ((b false),[]))) none) none)
noncomputable def ga9 (x:List Pln):Bool:=aa3 (one r1B) (ob3 x)
noncomputable def ha0 (x:List Pln):Bool:=okO (one r1B) (ob3 x)
noncomputable def Fa0:Sum:=S5 (Fa1 tP) (fun x=>.guard (ha0 x) (.ret ((one r1B).enc (ga9 x),[])))
theorem Fa6:g8 prog G 20 Fa0:=Pa9 (bd b20 rd8) (one r1B) (o:=ob3) fun x=>q8 (by kernel_rfl)
noncomputable def rd9:List (Nat×Sum):=[]
theorem id6:i4 prog G rd9:=trivial
noncomputable def db1 (x:Int) (y:Int):Option (b7×List b8):=(sl (y==0) none (sl (y==0) none (sl (decide ((Int.tmod x y) < 0)) (some ((i (W ((W (Int.tdiv x y)) - 1))),[])) (some ((i (W (Int.tdiv x y))),[])))))
noncomputable def oa5 (x:Int) (y:Int):Int:=aa3 (one r1I) (db1 x y)
noncomputable def oa6 (x:Int) (y:Int):Bool:=okO (one r1I) (db1 x y)
noncomputable def Ec4:Sum:=Sa3 cI cI (fun x y=>.guard (oa6 x y) (.ret ((one r1I).enc (oa5 x y),[])))
theorem sd0:g8 prog G 95 Ec4:=rc6 (bd b95 id6) (one r1I) (o:=db1) fun x y=>q8 (by kernel_rfl)
noncomputable def uc3:List (Nat×Sum):=[(20,Fa0),(94,Xb1),(18,qa8),(95,Ec4)]
theorem id7:i4 prog G uc3:=⟨Fa6,uc1,ta2,sd0,trivial⟩
structure Na3 where
 fa2:List Pt
 nc6:Int
structure ha3 where
 ua3:Int
 qa4:Int
 qa5:Int
 qa6:Int
 rc0:Int
 rc1:Int
 rc2:Int
noncomputable def Wc3 (p:Na3) (s:ha3):St:=⟨(.unk::(.unk::((.ptr 0 0 0 0)::((.ptr 1 0 0 0)::(.unk::((.ptr 2 0 0 0)::((.ptr 3 0 0 0)::(ra 11 ((eL tX p.fa2)::((i p.nc6)::((i s.ua3)::(ra 62 [])))))))))))),[⟨0,3,[[(i 0),(i 0),(i 0)]],true,false,0⟩,⟨0,3,[[(i 0),(i 0),(i 0)]],true,false,0⟩,⟨0,3,[[(i s.qa4),(i s.qa5),(i s.qa6)]],true,false,0⟩,⟨0,3,[[(i s.rc0),(i s.rc1),(i s.rc2)]],true,false,0⟩]⟩
noncomputable def Da6 {α:Type} (k:ha3→α) (e:Nat→α) (z:α) (p:Na3) (s:ha3):α:=let t1:=(oa5 (gL tX p.fa2 s.ua3.toNat).px (gL tX p.fa2 s.ua3.toNat).pw);let t2:=(oa5 (gL tX p.fa2 s.ua3.toNat).py (gL tX p.fa2 s.ua3.toNat).pw);let t3:=(oa5 (gL tX p.fa2 s.ua3.toNat).pz (gL tX p.fa2 s.ua3.toNat).pw);let t4:=(oa5 (W (0 - (gL tX p.fa2 s.ua3.toNat).px)) (gL tX p.fa2 s.ua3.toNat).pw);let t5:=(oa5 (W (0 - (gL tX p.fa2 s.ua3.toNat).py)) (gL tX p.fa2 s.ua3.toNat).pw);let t6:=(oa5 (W (0 - (gL tX p.fa2 s.ua3.toNat).pz)) (gL tX p.fa2 s.ua3.toNat).pw);(sl (decide (s.ua3 < p.nc6)) (sl (inB s.ua3 (List.length p.fa2)) (sl (oa6 (gL tX p.fa2 s.ua3.toNat).px (gL tX p.fa2 s.ua3.toNat).pw) (sl (oa6 (gL tX p.fa2 s.ua3.toNat).py (gL tX p.fa2 s.ua3.toNat).pw) (sl (oa6 (gL tX p.fa2 s.ua3.toNat).pz (gL tX p.fa2 s.ua3.toNat).pw) (sl (oa6 (W (0 - (gL tX p.fa2 s.ua3.toNat).px)) (gL tX p.fa2 s.ua3.toNat).pw) (sl (oa6 (W (0 - (gL tX p.fa2 s.ua3.toNat).py)) (gL tX p.fa2 s.ua3.toNat).pw) (sl (oa6 (W (0 - (gL tX p.fa2 s.ua3.toNat).pz)) (gL tX p.fa2 s.ua3.toNat).pw) (k ⟨(W (s.ua3+1)),(if t1 < s.qa4 then t1 else s.qa4),(if t2 < s.qa5 then t2 else s.qa5),(if t3 < s.qa6 then t3 else s.qa6),(if (W (0 - t4)) > s.rc0 then (W (0 - t4)) else s.rc0),(if (W (0 - t5)) > s.rc1 then (W (0 - t5)) else s.rc1),(if (W (0 - t6)) > s.rc2 then (W (0 - t6)) else s.rc2)⟩) z) z) z) z) z) z) z) (e 1))
noncomputable def wa9 (p:Na3) (s:ha3):Stp ha3:=Da6 .next .exit .fail p s
noncomputable def Bb7:Lo Na3 ha3:=⟨En uc3,0,tf4,[1,1,1,1,0,1,4,4],[2,3,5,6,18,19,20],.p,[⟨((.s (.o .unk))::((.s (.o .unk))::((.s (.o (.ptr 0 0 0 0)))::((.s (.o (.ptr 1 0 0 0)))::((.s (.o .unk))::((.s (.o (.ptr 2 0 0 0)))::((.s (.o (.ptr 3 0 0 0)))::(ru2 11 ((.s (.c 4 (nL tX)))::((.s (.o (.int .i64)))::((.s (.o (.int .i64)))::(ru2 62 [])))))))))))),[⟨0,3,true,(some [[(.o (.lit .i64 0)),(.o (.lit .i64 0)),(.o (.lit .i64 0))]])⟩,⟨0,3,true,(some [[(.o (.lit .i64 0)),(.o (.lit .i64 0)),(.o (.lit .i64 0))]])⟩,⟨0,3,true,(some [[(.o (.int .i64)),(.o (.int .i64)),(.o (.int .i64))]])⟩,⟨0,3,true,(some [[(.o (.int .i64)),(.o (.int .i64)),(.o (.int .i64))]])⟩],fun a H=>(⟨(rL tX (slT a 18)),(toI (slT a 19))⟩,⟨(toI (slT a 20)),(toI (slT (rwT (elT H 2) 0) 0)),(toI (slT (rwT (elT H 2) 0) 1)),(toI (slT (rwT (elT H 2) 0) 2)),(toI (slT (rwT (elT H 3) 0) 0)),(toI (slT (rwT (elT H 3) 0) 1)),(toI (slT (rwT (elT H 3) 0) 2))⟩)⟩],wa9,[(some 0,fun p s=>⟨(.unk::(.unk::((.ptr 0 0 0 0)::((.ptr 1 0 0 0)::(.unk::((.ptr 2 0 0 0)::((.ptr 3 0 0 0)::(ra 11 ((eL tX p.fa2)::((i p.nc6)::((i s.ua3)::((b (decide (s.ua3 < p.nc6)))::(ra 61 []))))))))))))),[⟨0,3,[[(i 0),(i 0),(i 0)]],true,false,0⟩,⟨0,3,[[(i 0),(i 0),(i 0)]],true,false,0⟩,⟨0,3,[[(i s.qa4),(i s.qa5),(i s.qa6)]],true,false,0⟩,⟨0,3,[[(i s.rc0),(i s.rc1),(i s.rc2)]],true,false,0⟩]⟩)],Wc3⟩
theorem Wc4:Bb7.Ok:=Lo.ok [] (by kernel_rfl) .nil rfl (.cons (fun a H=>by kernel_rfl) .nil) fun p s=>(.of @Da6 (fun F _ _ _ _ _=>by unfold Da6;(repeat' apply j5 (f:=F))<;>rfl) (by kernel_rfl))
noncomputable def db2 (x:List Pln):Option (b7×List b8):=let t1:=(ga9 (rt tP x));let t2:=(Y2 (⟨24,24,24⟩:V3) (-1));let t3:=(T0 (rt tP x));let t4:=(lp (wa9 (⟨(rt tX t3),(↑(List.length t3):Int)⟩:Na3)) (⟨0,24,24,24,t2.x,t2.y,t2.z⟩:ha3));(sl (okE tP x) (sl (ha0 (rt tP x)) (sl (!t1) (some ((.tup [(.agg [(i 0),(i 0),(i 0)]),(.agg [(i 0),(i 0),(i 0)]),(b false)]),[])) (sl (okE tP x) (sl (T1 (rt tP x)) (sl ((cnE tX t3)&&true) (sl (Nat.beq t4.1 1) (some ((.tup [(.agg [(i t4.2.qa4),(i t4.2.qa5),(i t4.2.qa6)]),(.agg [(i t4.2.rc0),(i t4.2.rc1),(i t4.2.rc2)]),(b true)]),[])) none) none) none) none)) none) none)
noncomputable def vb6 (x:List Pln):V3×V3×Bool:=aa3 (Pd8 r1V r1V r1B) (db2 x)
noncomputable def vb7 (x:List Pln):Bool:=okO (Pd8 r1V r1V r1B) (db2 x)
noncomputable def Ec5:Sum:=S5 (Fa1 tP) (fun x=>.guard (vb7 x) (.ret ((Pd8 r1V r1V r1B).enc (vb6 x),[])))
theorem sd1:g8 prog G 22 Ec5:=Pa9 (bd b22 id7) (Pd8 r1V r1V r1B) (o:=db2) fun x=>Ma1 (.s .p (.s .p (.s .p (.s .p (.s (.s .p (.b (.u Bb7.ls))) .p))))) [Bb7.pr] (by kernel_rfl) (.cons Wc4 .nil) (by kernel_rfl)
end Go.Ev.Ce
end
namespace Go.Ev.Ce
open Go Go.Ev Go.Ev.L Go.Proofs
theorem te5 (P:Qa1) (g n:Int) (hn:n.natAbs≤9223372036854775808):lp (Ta4 P) ⟨g,n⟩=(1,⟨eu g n,0⟩) :=
 Se4 (mk:=fun g n=>(⟨g,n⟩:ya0)) (fun g n h=>by simp[Ta4,Ma4,Nb2,h]) (fun g=>by simp[Ta4,Ma4,Nb2]) g n hn
theorem te6 (l:List Int) (hl:l.length≤1000000000) (hb:∀ x∈l,x.natAbs≤9223372036854775808):lp (Ja4 ⟨(l.length:Int)⟩) ⟨0,l,0⟩=(1,⟨l.foldl eu 0,l,l.length⟩):=by
 have := Cc9 (step := Ja4 ⟨(l.length : Int)⟩) (mk := fun j a => (⟨a, l, (j : Int)⟩ : ya1)) (f := eu) (fin := 1) tI l (fun _ _ => True) hl (fun j a hj _ => ⟨by
   simp only[Ja4,Ma5,Int.toNat_natCast,l6,j9,te5 _ _ _ (hb _ (Ab1 tI hj)),q7 hj (by omega)]
   rw[bt (ic5 hj),bt (f8 hj)]
   rfl,trivial⟩) (fun a _=>by simp[Ja4,Ma5,Nb2]) 0 (Nat.zero_le _) 0 trivial
 simpa using this.1
theorem Ec6:∀ (l:List Int) (g:Int),(l.foldl eu g).natAbs=l.foldl (fun a x=>Nat.gcd a x.natAbs) g.natAbs
 | [],_=>rfl
 | x::l,g=>by rw[List.foldl_cons,Ec6 l,List.foldl_cons,Ae2];rfl
theorem lf2 (l:List Int) (hl:l.length≤1000000000) (hb:∀ x∈l,x.natAbs≤9223372036854775807) (h0:(l.foldl eu 0).natAbs≤9223372036854775807):Ab9 l=some (i ((l.foldl eu 0).natAbs:Int),[]):=by
 unfold Ab9
 simp only[l6,j9,te6 l hl (fun x hx=>Nat.le_succ_of_le (hb x hx))]
 generalize l.foldl eu 0=e at *
 have:W (0 - e)=-e:=by rw[na5 (by omega) (by omega)];omega
 rw[this]
 show some (i (if -e > e then -e else e),[])=_
 congr 3
 split<;>omega
noncomputable def rm (p:Pln) (x:Pt):Int:=W (p.b*x.pw - (p.n.x*x.px+p.n.y*x.py+p.n.z*x.pz))
theorem Hd6 (p:Pln) (x:Pt):Ea9 p x=rm p x:=by
 unfold Ea9 G5 rm
 simp only[Nb3,ic4,Fd6,ce9]
structure Bd (p:Pln):Prop where
 x1:-4608≤p.n.x
 x2:p.n.x≤4608
 y1:-4608≤p.n.y
 y2:p.n.y≤4608
 z1:-4608≤p.n.z
 z2:p.n.z≤4608
 b1:-2097152≤p.b
 b2:p.b≤2097152
def mv (p q r:Pln):V3 :=
 ⟨(c9 q.n r.n).x*p.b+(c9 r.n p.n).x*q.b+(c9 p.n q.n).x*r.b,
  (c9 q.n r.n).y*p.b+(c9 r.n p.n).y*q.b+(c9 p.n q.n).y*r.b,
  (c9 q.n r.n).z*p.b+(c9 r.n p.n).z*q.b+(c9 p.n q.n).z*r.b⟩
def gc (v:V3) (w:Int):Int:=(Nat.gcd (Nat.gcd v.x.natAbs v.y.natAbs) (Nat.gcd v.z.natAbs w.natAbs):Nat)
def mpt (p q r:Pln):Pt×Bool :=
 if mw p q r=0 then (⟨0,0,0,0⟩,false)
 else if mw p q r < 0 then (⟨Int.tdiv (-(mv p q r).x) (gc (mv p q r) (mw p q r)),Int.tdiv (-(mv p q r).y) (gc (mv p q r) (mw p q r)),Int.tdiv (-(mv p q r).z) (gc (mv p q r) (mw p q r)),Int.tdiv (-(mw p q r)) (gc (mv p q r) (mw p q r))⟩,true)
 else (⟨Int.tdiv (mv p q r).x (gc (mv p q r) (mw p q r)),Int.tdiv (mv p q r).y (gc (mv p q r) (mw p q r)),Int.tdiv (mv p q r).z (gc (mv p q r) (mw p q r)),Int.tdiv (mw p q r) (gc (mv p q r) (mw p q r))⟩,true)
def Sm (n:Int) (x:Int):Prop:=-n≤x∧x≤n
theorem kc4 {a b:V3} (ha:Sm 4608 a.x∧Sm 4608 a.y∧Sm 4608 a.z) (hb:Sm 4608 b.x∧Sm 4608 b.y∧Sm 4608 b.z):Sm 42467328 (c9 a b).x∧Sm 42467328 (c9 a b).y∧Sm 42467328 (c9 a b).z:=by
 obtain⟨⟨a1,a2⟩,⟨a3,a4⟩,a5,a6⟩:=ha
 obtain⟨⟨b1,b2⟩,⟨b3,b4⟩,b5,b6⟩:=hb
 have h1:=mb a3 a4 b5 b6;have h2:=mb a5 a6 b3 b4;have h3:=mb a5 a6 b1 b2;have h4:=mb a1 a2 b5 b6;have h5:=mb a1 a2 b3 b4;have h6:=mb a3 a4 b1 b2
 unfold Sm c9
 simp only
 omega
theorem Bd.n {p:Pln} (h:Bd p):Sm 4608 p.n.x∧Sm 4608 p.n.y∧Sm 4608 p.n.z:=⟨⟨h.x1,h.x2⟩,⟨h.y1,h.y2⟩,h.z1,h.z2⟩
theorem ef7 {p q r:Pln} (hp:Bd p) (hq:Bd q) (hr:Bd r):Sm 600000000000 (mw p q r):=by
 obtain⟨⟨c1,c2⟩,⟨c3,c4⟩,c5,c6⟩:=kc4 hq.n hr.n
 have h1:=mb hp.x1 hp.x2 c1 c2;have h2:=mb hp.y1 hp.y2 c3 c4;have h3:=mb hp.z1 hp.z2 c5 c6
 unfold Sm mw dot
 omega
theorem ef8 {p q r:Pln} (hp:Bd p) (hq:Bd q) (hr:Bd r):Sm 300000000000000 (mv p q r).x∧Sm 300000000000000 (mv p q r).y∧Sm 300000000000000 (mv p q r).z:=by
 obtain⟨⟨c1,c2⟩,⟨c3,c4⟩,c5,c6⟩:=kc4 hq.n hr.n
 obtain⟨⟨d1,d2⟩,⟨d3,d4⟩,d5,d6⟩:=kc4 hr.n hp.n
 obtain⟨⟨e1,e2⟩,⟨e3,e4⟩,e5,e6⟩:=kc4 hp.n hq.n
 have a1:=mb c1 c2 hp.b1 hp.b2;have a2:=mb c3 c4 hp.b1 hp.b2;have a3:=mb c5 c6 hp.b1 hp.b2
 have b1:=mb d1 d2 hq.b1 hq.b2;have b2:=mb d3 d4 hq.b1 hq.b2;have b3:=mb d5 d6 hq.b1 hq.b2
 have f1:=mb e1 e2 hr.b1 hr.b2;have f2:=mb e3 e4 hr.b1 hr.b2;have f3:=mb e5 e6 hr.b1 hr.b2
 unfold Sm mv
 simp only
 omega
theorem Ec7 (a b:V3):D4 a b=⟨W (c9 a b).x,W (c9 a b).y,W (c9 a b).z⟩:=by
 unfold D4 c9
 simp only[Fd6,ce9]
theorem Ue7 (a b:V3):mb8 a b=⟨W (c9 a b).x,W (c9 a b).y,W (c9 a b).z⟩:=by
 unfold mb8 c9
 simp only[Fd6,ce9]
theorem lf3 (p q r:Pln):dot r.n (c9 p.n q.n)=mw p q r:=by unfold mw dot c9;grind
theorem Lf1 (a b c d:Nat):[a,b,c,d].foldl Nat.gcd 0=Nat.gcd (Nat.gcd a b) (Nat.gcd c d):=by
 simp only[List.foldl_cons,List.foldl_nil,Nat.gcd_zero_left]
 rw[Nat.gcd_assoc]
theorem Hd7 {v:V3} {w:Int} (h:w≠0):0 < gc v w:=by
 unfold gc
 have:0 < Nat.gcd v.z.natAbs w.natAbs:=Nat.gcd_pos_of_pos_right _ (by omega)
 have:=Nat.gcd_pos_of_pos_right (Nat.gcd v.x.natAbs v.y.natAbs) this
 omega
theorem ef9 {v:V3} {w:Int} (h:w≠0):gc v w≤w.natAbs:=by
 unfold gc
 have h1:Nat.gcd v.z.natAbs w.natAbs≤w.natAbs:=Nat.gcd_le_right _ (by omega)
 have h2:0 < Nat.gcd v.z.natAbs w.natAbs:=Nat.gcd_pos_of_pos_right _ (by omega)
 have h3:=Nat.gcd_le_right (m:=Nat.gcd v.x.natAbs v.y.natAbs) (n:=Nat.gcd v.z.natAbs w.natAbs) h2
 omega
theorem jb0 {x:Int} (h:Sm 1000000000000000000 x):W x=x:=na5 (by have:=h.1;omega) (by have:=h.2;omega)
theorem Sm.mono {n m x:Int} (h:Sm n x) (hn:n≤m):Sm m x:=⟨by have:=h.1;omega,by have:=h.2;omega⟩
theorem S3 {n x g:Int} (h:Sm n x) (hg:0 < g):Sm n (Int.tdiv x g):=by
 have h1:(Int.tdiv x g).natAbs≤x.natAbs:=by rw[Int.natAbs_tdiv];exact Nat.div_le_self _ _
 have:=h.1;have:=h.2
 constructor<;>omega
theorem Hd8 {p q r:Pln} (hp:Bd p) (hq:Bd q) (hr:Bd r) (h:(mpt p q r).2=true):0 < (mpt p q r).1.pw∧Sm 300000000000000 (mpt p q r).1.px∧Sm 300000000000000 (mpt p q r).1.py∧Sm 300000000000000 (mpt p q r).1.pz∧(mpt p q r).1.pw≤600000000000:=by
 have hw:=ef7 hp hq hr
 obtain⟨v1,v2,v3⟩:=ef8 hp hq hr
 have neg:∀ {n x:Int},Sm n x→Sm n (-x):=fun h=>⟨by have:=h.2;omega,by have:=h.1;omega⟩
 have pos:∀ {x:Int},0 < x→x.natAbs=(mw p q r).natAbs→0 < Int.tdiv x (gc (mv p q r) (mw p q r)):=fun {x} hx he=>by
  have h0:mw p q r≠0:=by omega
  have h1:=Hd7 (v:=mv p q r) h0
  have h2:=ef9 (v:=mv p q r) h0
  rw[Int.tdiv_eq_ediv_of_nonneg (by omega)]
  exact Int.ediv_pos_of_pos_of_dvd hx (by omega) (by
   rw[← Int.dvd_natAbs,he]
   exact Int.natCast_dvd_natCast.2 (Nat.dvd_trans (Nat.gcd_dvd_right _ _) (Nat.gcd_dvd_right _ _)))
 unfold mpt at h ⊢
 by_cases h0:mw p q r=0
 ·rw[if_pos h0] at h;cases h
 ·rw[if_neg h0]
  have hg:=Hd7 (v:=mv p q r) h0
  by_cases h1:mw p q r < 0
  ·rw[if_pos h1]
   exact⟨pos (by omega) (by omega),S3 (neg v1) hg,S3 (neg v2) hg,S3 (neg v3) hg,(S3 (neg hw) hg).2⟩
  ·rw[if_neg h1]
   exact⟨pos (by omega) rfl,S3 v1 hg,S3 v2 hg,S3 v3 hg,(S3 hw hg).2⟩
theorem ke7 {p q r:Pln} (hp:Bd p) (hq:Bd q) (hr:Bd r):nb0 ⟨p,q,r⟩=some (.tup [.agg (tX.row (mpt p q r).1),b (mpt p q r).2],[]):=by
 have hw:=ef7 hp hq hr
 obtain⟨v1,v2,v3⟩:=ef8 hp hq hr
 have e1:G5 r.n (D4 p.n q.n)=mw p q r:=by
  rw[Ec7]
  unfold G5
  simp only[Nb3,ic4,jf8]
  show W (dot r.n (c9 p.n q.n))=_
  rw[lf3,jb0 (hw.mono (by omega))]
 have e2:Ea8 (Ea8 (Ea8 ⟨0,0,0⟩ (Y2 (D4 q.n r.n) p.b)) (Y2 (D4 r.n p.n) q.b)) (Y2 (D4 p.n q.n) r.b)=mv p q r:=by
  rw[Ec7,Ec7,Ec7]
  unfold Ea8 Y2
  simp only[Nb3,ic4,Ae0,Int.zero_add]
  show (⟨W (mv p q r).x,W (mv p q r).y,W (mv p q r).z⟩:V3)=_
  rw[jb0 (v1.mono (by omega)),jb0 (v2.mono (by omega)),jb0 (v3.mono (by omega))]
 unfold nb0
 simp only[e1,e2]
 have hb:∀ x∈[(mv p q r).x,(mv p q r).y,(mv p q r).z,mw p q r],x.natAbs≤9223372036854775807:=by
  intro x hx
  simp only[List.mem_cons,List.not_mem_nil,or_false] at hx
  unfold Sm at *
  rcases hx with rfl | rfl | rfl | rfl<;>omega
 have hf:([(mv p q r).x,(mv p q r).y,(mv p q r).z,mw p q r].foldl eu 0).natAbs=Nat.gcd (Nat.gcd (mv p q r).x.natAbs (mv p q r).y.natAbs) (Nat.gcd (mv p q r).z.natAbs (mw p q r).natAbs):=by
  rw[Ec6,← Lf1];rfl
 unfold mpt
 by_cases h0:mw p q r=0
 ·rw[bt (by rw[h0];rfl),if_pos h0]
  rfl
 ·have hz:(mw p q r==0)=false:=by simpa using h0
  rw[bf hz,if_neg h0]
  have hgp:=Hd7 (v:=mv p q r) h0
  have hgl:=ef9 (v:=mv p q r) h0
  have hge:=lf2 _ (by simp) hb (by rw[hf];unfold gc at hgl;unfold Sm at hw;omega)
  have hgv:Xb5 [(mv p q r).x,(mv p q r).y,(mv p q r).z,mw p q r]=gc (mv p q r) (mw p q r):=by
   unfold Xb5;rw[hge,hf];rfl
  have hgg:Xb6 [(mv p q r).x,(mv p q r).y,(mv p q r).z,mw p q r]=true:=by
   unfold Xb6;rw[hge];rfl
  rw[hgv,bt hgg]
  generalize hG:gc (mv p q r) (mw p q r)=G at *
  have hGW:W (0 - G)=-G:=by unfold Sm at hw;rw[na5 (by omega) (by omega)];omega
  have hGn:(-G==0)=false:=by simp;omega
  have hGp:(G==0)=false:=by simp;omega
  by_cases h1:mw p q r < 0
  ·rw[bt (decide_eq_true h1),if_pos h1]
   simp only[hGW]
   rw[bf hGn,bf hGn,bf hGn,bf hGn]
   simp only[Int.tdiv_neg,← Int.neg_tdiv]
   have neg:∀ {n x:Int},Sm n x→Sm n (-x):=fun h=>⟨by have:=h.2;omega,by have:=h.1;omega⟩
   rw[jb0 ((S3 (neg v1) hgp).mono (by omega)),jb0 ((S3 (neg v2) hgp).mono (by omega)),jb0 ((S3 (neg v3) hgp).mono (by omega)),jb0 ((S3 (neg hw) hgp).mono (by omega))]
   rfl
  ·rw[bf (decide_eq_false h1),if_neg h1,bf hGp,bf hGp,bf hGp,bf hGp]
   rw[jb0 ((S3 v1 hgp).mono (by omega)),jb0 ((S3 v2 hgp).mono (by omega)),jb0 ((S3 v3 hgp).mono (by omega)),jb0 ((S3 hw hgp).mono (by omega))]
   rfl
theorem lf4 {p q r:Pln} (hp:Bd p) (hq:Bd q) (hr:Bd r):nb1 ⟨p,q,r⟩=mpt p q r:=by unfold nb1;rw[ke7 hp hq hr];rfl
theorem lf5 {p q r:Pln} (hp:Bd p) (hq:Bd q) (hr:Bd r):nb2 ⟨p,q,r⟩=true:=by unfold nb2;rw[ke7 hp hq hr];rfl
end Go.Ev.Ce
namespace Go.Ev.Ce
open Go Go.Ev Go.Ev.L Go.Proofs
noncomputable def inn (l:List Pln) (x:Pt):Bool:=l.all fun p=>!decide (rm p x < 0)
theorem Ue8 (l:List Pln) (x:Pt):inn l x=!l.any fun p=>decide (rm p x < 0):=by unfold inn;rw[List.not_any_eq_all_not]
theorem yf6 (p:Pln) (x:Pt):qb0 ⟨p.n.x,p.n.y,p.n.z,p.b,x.px,x.py,x.pz,x.pw⟩=⟨decide (rm p x < 0)⟩:=by
 show Ha1.mk (decide (Ea9 p x < 0))=_
 rw[Hd6]
theorem Ue9 (l:List Pln) (x:Pt) (hl:l.length≤1000000000):ba1 ⟨l,x.px,x.py,x.pz,x.pw⟩=⟨1,if l.any (fun p=>decide (rm p x < 0)) then ((l.findIdx (fun p=>decide (rm p x < 0)):Nat):Int) else -1⟩:=by
 have h:=Fa2 (step:=K0 ⟨l,(l.length:Int),x.px,x.py,x.pz,x.pw⟩) (mk:=fun j=>(⟨(j:Int)⟩:o2)) (c:=fun p=>decide (rm p x < 0)) (u:=1) (fin:=2) tP l hl
  (fun j hj=>by
   simp only[K0,G6,Int.toNat_natCast,yf6,q7 hj (by omega)]
   rw[bt (ic5 hj),bt (f8 hj)])
  (by simp only[K0,G6];rw[bf (Wb5 (Nat.lt_irrefl _))]) 0 (Nat.zero_le _)
 rw[List.drop_zero] at h
 unfold ba1 H8
 simp only[l6,j9]
 rw[show (⟨0⟩:o2)=⟨((0:Nat):Int)⟩ from rfl,h]
 split
 ·simp only[Nat.zero_add];rfl
 ·rfl
theorem zd9 (l:List Pln) (x:Pt) (hl:l.length≤1000000000):Ta5 l x=some (b (inn l x),[]):=by
 unfold Ta5 la3 C3
 simp only[l6,j9,Ue9 l x hl,Ue8]
 split
 ·rename_i h
  rw[h,show decide (((l.findIdx (fun p=>decide (rm p x < 0)):Nat):Int)≥0)=true from decide_eq_true (by omega)];rfl
 ·rename_i h
  rw[Bool.not_eq_true] at h
  rw[h];rfl
theorem id8 (l:List Pln) (x:Pt) (hl:l.length≤1000000000):fa5 l x=inn l x:=by unfold fa5;rw[zd9 l x hl];rfl
theorem id9 (l:List Pln) (x:Pt) (hl:l.length≤1000000000):fa6 l x=true:=by unfold fa6;rw[zd9 l x hl];rfl
def eqX (x q:Pt):Bool:=q.px==x.px&&(q.py==x.py&&(q.pz==x.pz&&(q.pw==x.pw&&true)))
theorem Hd9 (x q:Pt):eqX x q=true↔q=x:=by
 unfold eqX
 simp only[Bool.and_true,Bool.and_eq_true,beq_iff_eq]
 exact⟨fun⟨h1,h2,h3,h4⟩=>by cases q;cases x;simp_all,fun h=>by subst h;exact⟨rfl,rfl,rfl,rfl⟩⟩
def rc9 (l:List Pt) (x:Pt):Bool:=l.any (eqX x)
theorem Td0 (l:List Pt) (x:Pt):rc9 l x=true↔x∈l:=by
 unfold rc9
 rw[List.any_eq_true]
 exact⟨fun⟨q,h,e⟩=>(Hd9 x q).1 e ▸ h,fun h=>⟨x,h,(Hd9 x x).2 rfl⟩⟩
def smb (n x:Int):Bool:=!decide (x < -n)&&!decide (x > n)
theorem Yb2 (n x:Int):smb n x=true↔Sm n x:=by unfold smb Sm;simp only[Bool.and_eq_true,Bool.not_eq_true',decide_eq_false_iff_not];omega
theorem jd0 (n:Int) (l:List Int) (hn:0≤n∧n≤1000000000) (hl:l.length≤1000000000):Ma7 n l=some (b (l.all (smb n)),[]):=by
 have hW:W (0 - n)=-n:=by rw[na5 (by omega) (by omega)];omega
 have h:=fd9 (step:=ya2 ⟨n,l,(l.length:Int)⟩) (mk:=fun j=>(⟨(j:Int)⟩:Q4)) (c:=fun x=>!smb n x) (u:=1) (fin:=2) tI l hl
  (fun j hj=>by
   simp only[ya2,sa3,Int.toNat_natCast,q7 hj (by omega),hW]
   rw[bt (ic5 hj),bt (f8 hj)]
   unfold smb
   cases decide (gL tI l j < -n)<;>cases decide (gL tI l j > n)<;>rfl)
  (by simp only[ya2,sa3];rw[bf (Wb5 (Nat.lt_irrefl _))]) 0 (Nat.zero_le _)
 rw[List.drop_zero] at h
 unfold Ma7
 simp only[l6,j9]
 rw[show (⟨0⟩:Q4)=⟨((0:Nat):Int)⟩ from rfl,h]
 have e:(l.any fun x=>!smb n x)=!l.all (smb n):=by rw[List.not_all_eq_any_not]
 rw[e]
 cases l.all (smb n)<;>rfl
theorem Mc6 (n:Int) (l:List Int) (hn:0≤n∧n≤1000000000) (hl:l.length≤1000000000):Da1 n l=l.all (smb n):=by unfold Da1;rw[jd0 n l hn hl];rfl
theorem Mc7 (n:Int) (l:List Int) (hn:0≤n∧n≤1000000000) (hl:l.length≤1000000000):Da2 n l=true:=by unfold Da2;rw[jd0 n l hn hl];rfl
theorem Td1 {n:Int} (h:Sm 1000000000000000000 n):Qa2 n=(n.natAbs:Int):=by
 unfold Qa2
 obtain⟨h1,h2⟩:=h
 rw[na5 (by omega) (by omega)]
 split<;>omega
theorem Ec8 {n:Int} (h:Sm 1000000000000000000 n):Ma2 n=some (i (n.natAbs:Int),[]):=by
 unfold Ma2
 obtain⟨h1,h2⟩:=h
 rw[na5 (by omega) (by omega)]
 by_cases h:n < 0
 ·rw[bt (decide_eq_true h)];congr 3;omega
 ·rw[bf (decide_eq_false h)];congr 3;omega
theorem kc5 {n:Int} (h:Sm 1000000000000000000 n):Ca5 n=(n.natAbs:Int):=by unfold Ca5;rw[Ec8 h];rfl
theorem kc6 {n:Int} (h:Sm 1000000000000000000 n):Ca6 n=true:=by unfold Ca6;rw[Ec8 h];rfl
def g3 (v:V3):Int:=(Nat.gcd (Nat.gcd v.x.natAbs v.y.natAbs) v.z.natAbs:Nat)
theorem Ee2 (g n:Nat):eu (g:Int) (n:Int)=(Nat.gcd g n:Nat):=by rw[kf0 (by omega) (by omega)];rfl
theorem sd2 (P:ia8) (g n:Nat) (hn:n≤1000000000000000000):lp (ea1 P) ⟨(g:Int),(n:Int)⟩=(1,⟨(Nat.gcd g n:Nat),0⟩):=by
 have:=Sc3 (step:=ea1 P) (mk:=fun g n=>(⟨g,n⟩:S1)) (fun g n h=>by
  have h0:n≠0:=by omega
  simp[ea1,ma6,Nb2,h,h0]) (fun g=>by simp[ea1,ma6,Nb2]) (g:Int) (n:Int) (by omega) (by omega) (by omega)
 rw[this,Ee2]
theorem jd1 (l:List Int) (hl:l.length≤1000000000) (hb:∀ x∈l,Sm 1000000000000000000 x):Ha4 l=some (i (l.foldl (fun g x=>Nat.gcd g x.natAbs) 0:Nat),[]):=by
 have h := Cc9 (step := sa4 ⟨(l.length : Int)⟩) (mk := fun j (a : Nat) => (⟨(a : Int), l, (j : Int)⟩ : L9)) (f := fun g x => Nat.gcd g x.natAbs) (fin := 2) tI l (fun _ _ => True) hl (fun j a hj _ => ⟨by
   have hm:=hb _ (Ab1 tI hj)
   have hne:(gL tI l j==(-9223372036854775808:Int))=false:=by
    have:=hm.1
    rw[beq_eq_false_iff_ne];omega
   have hs:(gL tI l j).natAbs≤1000000000000000000:=by obtain⟨h1,h2⟩:=hm;omega
   simp only[sa4,ma7,Int.toNat_natCast,l6,j9,Td1 hm,sd2 _ _ _ hs,q7 hj (by omega)]
   rw[bt (ic5 hj),bt (f8 hj),bf hne]
   rfl,trivial⟩) (fun a _=>by simp only[sa4,ma7];rw[bf (Wb5 (Nat.lt_irrefl _))]) 0 (Nat.zero_le _) 0 trivial
 have h:=h.1
 rw[List.drop_zero] at h
 unfold Ha4
 simp only[l6,j9]
 rw[show (⟨0,l,0⟩:L9)=⟨((0:Nat):Int),l,((0:Nat):Int)⟩ from rfl,h]
 rfl
def okp (p:Pln):Bool:=[p.n.x,p.n.y,p.n.z].all (smb 4608)&&(g3 p.n==1&&[p.b].all (smb 2097152))
theorem lf6 (p:Pln):Bd p↔[p.n.x,p.n.y,p.n.z].all (smb 4608)=true∧[p.b].all (smb 2097152)=true:=by
 simp only[List.all_cons,List.all_nil,Bool.and_true,Bool.and_eq_true,Yb2,Sm]
 exact⟨fun h=>⟨⟨⟨h.x1,h.x2⟩,⟨h.y1,h.y2⟩,h.z1,h.z2⟩,h.b1,h.b2⟩,fun⟨⟨⟨a,b⟩,⟨c,d⟩,e,f⟩,g,h⟩=>⟨a,b,c,d,e,f,g,h⟩⟩
theorem Yb3 {p:Pln} (h:okp p=true):Bd p:=by
 unfold okp at h
 rw[Bool.and_eq_true,Bool.and_eq_true] at h
 exact (lf6 p).2 ⟨h.1,h.2.2⟩
theorem sm3 {v:V3} (h:[v.x,v.y,v.z].all (smb 4608)=true):Sm 4608 v.x∧Sm 4608 v.y∧Sm 4608 v.z:=by
 simpa only[List.all_cons,List.all_nil,Bool.and_true,Bool.and_eq_true,Yb2] using h
theorem Td2 (p:Pln):Ta7 p=some (b (okp p),[]):=by
 unfold Ta7 okp
 have l3:[p.n.x,p.n.y,p.n.z].length≤1000000000:=by simp
 have l1:[p.b].length≤1000000000:=by simp
 simp only[Mc6 4608 _ (by omega) l3,Mc7 4608 _ (by omega) l3,Mc6 2097152 _ (by omega) l1,Mc7 2097152 _ (by omega) l1]
 cases hw:[p.n.x,p.n.y,p.n.z].all (smb 4608) with
 | false=>rfl
 | true =>
  obtain⟨h1,h2,h3⟩:=sm3 hw
  have hd:=jd1 [p.n.x,p.n.y,p.n.z] l3 (by
   intro x hx
   simp only[List.mem_cons,List.not_mem_nil,or_false] at hx
   rcases hx with rfl | rfl | rfl
   ·exact h1.mono (by omega)
   ·exact h2.mono (by omega)
   ·exact h3.mono (by omega))
  have hg:([p.n.x,p.n.y,p.n.z].foldl (fun g x=>Nat.gcd g x.natAbs) 0:Nat)=Nat.gcd (Nat.gcd p.n.x.natAbs p.n.y.natAbs) p.n.z.natAbs:=by
   simp only[List.foldl_cons,List.foldl_nil,Nat.gcd_zero_left]
  have hp:la4 [p.n.x,p.n.y,p.n.z]=g3 p.n:=by unfold la4;rw[hd,hg];rfl
  have hgd:la5 [p.n.x,p.n.y,p.n.z]=true:=by unfold la5;rw[hd];rfl
  rw[hp,hgd]
  cases g3 p.n==1<;>rfl
theorem ke8 (p:Pln):Ta8 p=okp p:=by unfold Ta8;rw[Td2 p];rfl
theorem ke9 (p:Pln):Ta9 p=true:=by unfold Ta9;rw[Td2 p];rfl
theorem Mc8 (P:xa9) (g n:Nat) (hn:n≤1000000000000000000):lp (qa7 P) ⟨(g:Int),(n:Int)⟩=(1,⟨(Nat.gcd g n:Nat),0⟩):=by
 have:=Sc3 (step:=qa7 P) (mk:=fun g n=>(⟨g,n⟩:Y1)) (fun g n h=>by
  have h0:n≠0:=by omega
  simp[qa7,Ma3,Nb2,h,h0]) (fun g=>by simp[qa7,Ma3,Nb2]) (g:Int) (n:Int) (by omega) (by omega) (by omega)
 rw[this,Ee2]
theorem Id0 {v : V3} (h1 : Sm 1000000000000000000 v.x) (h2 : Sm 1000000000000000000 v.y) (h3 : Sm 1000000000000000000 v.z) :
  Ab6 v=if g3 v=0 then some (.tup [.agg (tV.row ⟨0,0,0⟩),i 0],[]) else some (.tup [.agg (tV.row ⟨W (Int.tdiv v.x (g3 v)),W (Int.tdiv v.y (g3 v)),W (Int.tdiv v.z (g3 v))⟩),i (g3 v)],[]):=by
 have ne:∀ {x:Int},Sm 1000000000000000000 x→(x==(-9223372036854775808:Int))=false:=fun {x} h=>by
  have:=h.1
  rw[beq_eq_false_iff_ne];omega
 have bd:∀ {x:Int},Sm 1000000000000000000 x→x.natAbs≤1000000000000000000:=fun {x} h=>by obtain⟨h1,h2⟩:=h;omega
 have l1:=Mc8 ⟨0,v.x,v.y,v.z,v.x,v.y,v.z⟩ 0 v.x.natAbs (bd h1)
 rw[Nat.gcd_zero_left] at l1
 have l2:=Mc8 ⟨1,v.x,v.y,v.z,v.x,v.y,v.z⟩ v.x.natAbs v.y.natAbs (bd h2)
 have l3:=Mc8 ⟨2,v.x,v.y,v.z,v.x,v.y,v.z⟩ (Nat.gcd v.x.natAbs v.y.natAbs) v.z.natAbs (bd h3)
 unfold Ab6
 simp only[kc5 h1,kc5 h2,kc5 h3,kc6 h1,kc6 h2,kc6 h3]
 rw[show (⟨0,(v.x.natAbs:Int)⟩:Y1)=⟨((0:Nat):Int),(v.x.natAbs:Int)⟩ from rfl]
 simp only[l1,l2,l3,ne h1,ne h2,ne h3]
 rw[show ((Nat.gcd (Nat.gcd v.x.natAbs v.y.natAbs) v.z.natAbs:Nat):Int)=g3 v from rfl]
 by_cases h:g3 v=0
 ·rw[if_pos h,show (g3 v==0)=true from by rw[h];rfl];rfl
 ·rw[if_neg h,show (g3 v==0)=false from by rw[beq_eq_false_iff_ne];exact h];rfl
theorem jd2 {v:V3} (h1:Sm 1000000000000000000 v.x) (h2:Sm 1000000000000000000 v.y) (h3:Sm 1000000000000000000 v.z):(Xa9 v).2=g3 v:=by
 unfold Xa9
 rw[Id0 h1 h2 h3]
 split
 ·rename_i h;rw[h];rfl
 ·rfl
theorem lf7 {v:V3} (h1:Sm 1000000000000000000 v.x) (h2:Sm 1000000000000000000 v.y) (h3:Sm 1000000000000000000 v.z) (h:g3 v≠0):Xa9 v=(⟨W (Int.tdiv v.x (g3 v)),W (Int.tdiv v.y (g3 v)),W (Int.tdiv v.z (g3 v))⟩,g3 v):=by
 unfold Xa9
 rw[Id0 h1 h2 h3,if_neg h]
 rfl
theorem Ee3 {v:V3} (h1:Sm 1000000000000000000 v.x) (h2:Sm 1000000000000000000 v.y) (h3:Sm 1000000000000000000 v.z):Ab7 v=true:=by
 unfold Ab7
 rw[Id0 h1 h2 h3]
 split<;>rfl
theorem Ad0 (p:Pln):mb9 p=some (b (okp p),[]):=by
 unfold mb9 okp
 cases hw:[p.n.x,p.n.y,p.n.z].all (smb 4608) with
 | false =>
  simp only[List.all_cons,List.all_nil,Bool.and_true,smb] at hw
  cases h1:decide (p.n.x < -4608)<;>cases h2:decide (p.n.x > 4608)<;>cases h3:decide (p.n.y < -4608)<;>cases h4:decide (p.n.y > 4608)<;>cases h5:decide (p.n.z < -4608)<;>cases h6:decide (p.n.z > 4608)<;>simp only[h1,h2,h3,h4,h5,h6] at hw ⊢<;>first | rfl | cases hw
 | true =>
  obtain⟨h1,h2,h3⟩:=sm3 hw
  rw[bf (decide_eq_false (by have:=h1.1;omega)),bf (decide_eq_false (by have:=h1.2;omega)),bf (decide_eq_false (by have:=h2.1;omega)),bf (decide_eq_false (by have:=h2.2;omega)),bf (decide_eq_false (by have:=h3.1;omega)),bf (decide_eq_false (by have:=h3.2;omega))]
  have k1:=h1.mono (m:=1000000000000000000) (by omega)
  have k2:=h2.mono (m:=1000000000000000000) (by omega)
  have k3:=h3.mono (m:=1000000000000000000) (by omega)
  rw[bt (Ee3 k1 k2 k3),jd2 k1 k2 k3]
  cases g3 p.n==1 with
  | false=>rfl
  | true =>
   simp only[List.all_cons,List.all_nil,Bool.and_true,smb,Bool.true_and]
   rw[w6]
   by_cases ha:p.b < -2097152
   ·rw[bf (decide_eq_false (by omega)),show decide (p.b < -2097152)=true from decide_eq_true ha];rfl
   ·rw[bt (decide_eq_true (by omega)),show decide (p.b < -2097152)=false from decide_eq_false ha]
    congr 3
    by_cases hc:p.b≤2097152
    ·rw[decide_eq_true hc,decide_eq_false (by omega)];rfl
    ·rw[decide_eq_false hc,decide_eq_true (by omega)];rfl
theorem Ee4 (p:Pln):Kb9 p=okp p:=by unfold Kb9;rw[Ad0 p];rfl
theorem Td3 (p:Pln):Lb0 p=true:=by unfold Lb0;rw[Ad0 p];rfl
def chk (l:List Pln):Int:=if (l.length:Int) > 48 then 2 else if l.all okp then 0 else 12
theorem Td4 (l:List Pln) (hl:l.length≤1000000000):cb4 l=some (i (chk l),[]):=by
 have hk1:∀ p,Ma8 p=some (b (!okp p),[]):=fun p=>by unfold Ma8;rw[ke9,ke8];rfl
 have hp1:∀ p,cb2 p=!okp p:=fun p=>by unfold cb2;rw[hk1];rfl
 have hg1:∀ p,cb3 p=true:=fun p=>by unfold cb3;rw[hk1];rfl
 have h:=Fa2 (step:=K1 ⟨l,(l.length:Int)⟩) (mk:=fun j=>(⟨(j:Int)⟩:o3)) (c:=fun p=>!okp p) (u:=1) (fin:=2) tP l hl
  (fun j hj=>by
   simp only[K1,G7,Int.toNat_natCast,hp1,hg1,q7 hj (by omega)]
   rw[bt (ic5 hj),bt (f8 hj),w6])
  (by simp only[K1,G7];rw[bf (Wb5 (Nat.lt_irrefl _))]) 0 (Nat.zero_le _)
 rw[List.drop_zero] at h
 have e:(l.any fun x=>!okp x)=!l.all okp:=by rw[List.not_all_eq_any_not]
 unfold cb4 la6 C5 va3 H9 chk
 simp only[l6,j9]
 rw[show (⟨0⟩:o3)=⟨((0:Nat):Int)⟩ from rfl,h,e]
 by_cases hn:(l.length:Int) > 48
 ·rw[bt (decide_eq_true hn),if_pos hn]
 ·rw[bf (decide_eq_false hn),if_neg hn]
  cases l.all okp with
  | true=>rfl
  | false =>
   simp only[Bool.not_false,if_true,Nat.zero_add]
   show sl true (sl (Nat.beq 1 1) (sl (decide (((l.findIdx fun p=>!okp p:Nat):Int)≥0)) _ _) _) _=_
   rw[show decide (((l.findIdx fun p=>!okp p:Nat):Int)≥0)=true from decide_eq_true (by omega)]
   rfl
theorem le0 (l:List Pln) (hl:l.length≤1000000000):cb5 l=chk l:=by unfold cb5;rw[Td4 l hl];rfl
theorem le1 (l:List Pln) (hl:l.length≤1000000000):cb6 l=true:=by unfold cb6;rw[Td4 l hl];rfl
theorem jd3 {l:List Pln}:chk l=0↔l.length≤48∧∀ p∈l,okp p=true:=by
 unfold chk
 by_cases hn:(l.length:Int) > 48
 ·rw[if_pos hn]
  exact⟨fun h=>absurd h (by decide),fun h=>by omega⟩
 ·rw[if_neg hn]
  cases h:l.all okp with
  | true=>exact⟨fun _=>⟨by omega,List.all_eq_true.1 h⟩,fun _=>rfl⟩
  | false=>exact⟨fun h=>absurd h (by decide),fun h'=>by rw[List.all_eq_true.2 h'.2] at h;cases h⟩
end Go.Ev.Ce
