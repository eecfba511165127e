/- Own work: a part of the proof. -/
import Derived.Test.YtlccibobknidjaaGreatEvBd
import Derived.Test.YtlccibobknidjaaGreatChecked
import Derived.Test.YtlccibobknidjaaGreatEvCePf
import Derived.KernelRfl
import Derived.Test.YtlccibobknidjaaGreatEvSp3
import Derived.Test.YtlccibobknidjaaGreatEvMem
import Derived.Shelf.Spec.SlicesGrow
set_option linter.unusedVariables false
set_option linter.unusedSimpArgs false
set_option linter.unnecessarySimpa false
set_option linter.unusedSectionVars false
section
namespace Go.Ev.Ce
open Go Go.Ev Go.Proofs
set_option maxRecDepth 1000000
theorem mx:(Tryz.prog).follows .mixedOrders=true:=Checked.mixed Tryz.checked
theorem b3:p8 Tryz.prog 3 fun E=>j6 E pf3:=q9 mx Tryz.func3 (by kernel_rfl) (e8 (by kernel_rfl))
theorem b4:p8 Tryz.prog 4 fun E=>j6 E pf4:=q9 mx Tryz.func4 (by kernel_rfl) (e8 (by kernel_rfl))
theorem b5:p8 Tryz.prog 5 fun E=>j6 E pf5:=q9 mx Tryz.func5 (by kernel_rfl) (e8 (by kernel_rfl))
theorem b6:p8 Tryz.prog 6 fun E=>j6 E pf6:=q9 mx Tryz.func6 (by kernel_rfl) (e8 (by kernel_rfl))
theorem b13:p8 Tryz.prog 13 fun E=>j6 E xe3:=q9 mx Tryz.func13 (by kernel_rfl) (e8 (by kernel_rfl))
theorem b14:p8 Tryz.prog 14 fun E=>j6 E xe4:=q9 mx Tryz.func14 (by kernel_rfl) (e8 (by kernel_rfl))
theorem b15:p8 Tryz.prog 15 fun E=>j6 E xe5:=q9 mx Tryz.func15 (by kernel_rfl) (e8 (by kernel_rfl))
theorem b16:p8 Tryz.prog 16 fun E=>j6 E qe1:=q9 mx Tryz.func16 (by kernel_rfl) (e8 (by kernel_rfl))
theorem b17:p8 Tryz.prog 17 fun E=>j6 E qe2:=q9 mx Tryz.func17 (by kernel_rfl) (e8 (by kernel_rfl))
theorem b18:p8 Tryz.prog 18 fun E=>j6 E xe6:=q9 mx Tryz.func18 (by kernel_rfl) (e8 (by kernel_rfl))
theorem b19:p8 Tryz.prog 19 fun E=>j6 E xe7:=q9 mx Tryz.func19 (by kernel_rfl) (e8 (by kernel_rfl))
theorem b20:p8 Tryz.prog 20 fun E=>j6 E xe8:=q9 mx Tryz.func20 (by kernel_rfl) (e8 (by kernel_rfl))
theorem b21:p8 Tryz.prog 21 fun E=>j6 E xe9:=q9 mx Tryz.func21 (by kernel_rfl) (e8 (by kernel_rfl))
theorem b22:p8 Tryz.prog 22 fun E=>j6 E qe3:=q9 mx Tryz.func22 (by kernel_rfl) (e8 (by kernel_rfl))
theorem b23:p8 Tryz.prog 23 fun E=>j6 E qe4:=q9 mx Tryz.func23 (by kernel_rfl) (e8 (by kernel_rfl))
theorem b25:p8 Tryz.prog 25 fun E=>j6 E ye0:=q9 mx Tryz.func25 (by kernel_rfl) (e8 (by kernel_rfl))
theorem b26:p8 Tryz.prog 26 fun E=>j6 E qe5:=q9 mx Tryz.func26 (by kernel_rfl) (e8 (by kernel_rfl))
theorem b28:p8 Tryz.prog 28 fun E=>j6 E ye1:=q9 mx Tryz.func28 (by kernel_rfl) (e8 (by kernel_rfl))
theorem b30:p8 Tryz.prog 30 fun E=>j6 E ye2:=q9 mx Tryz.func30 (by kernel_rfl) (e8 (by kernel_rfl))
theorem b31:p8 Tryz.prog 31 fun E=>j6 E ye3:=q9 mx Tryz.func31 (by kernel_rfl) (e8 (by kernel_rfl))
theorem b33:p8 Tryz.prog 33 fun E=>j6 E ye4:=q9 mx Tryz.func33 (by kernel_rfl) (e8 (by kernel_rfl))
theorem b35:p8 Tryz.prog 35 fun E=>j6 E ye5:=q9 mx Tryz.func35 (by kernel_rfl) (e8 (by kernel_rfl))
theorem b37:p8 Tryz.prog 37 fun E=>j6 E ye6:=q9 mx Tryz.func37 (by kernel_rfl) (e8 (by kernel_rfl))
theorem b39:p8 Tryz.prog 39 fun E=>j6 E qe6:=q9 mx Tryz.func39 (by kernel_rfl) (e8 (by kernel_rfl))
theorem b46:p8 Tryz.prog 46 fun E=>j6 E qe7:=q9 mx Tryz.func46 (by kernel_rfl) (e8 (by kernel_rfl))
theorem b47:p8 Tryz.prog 47 fun E=>j6 E ye7:=q9 mx Tryz.func47 (by kernel_rfl) (e8 (by kernel_rfl))
theorem b54:p8 Tryz.prog 54 fun E=>j6 E ye8:=q9 mx Tryz.func54 (by kernel_rfl) (e8 (by kernel_rfl))
theorem b81:p8 Tryz.prog 81 fun E=>j6 E ye9:=q9 mx Tryz.func81 (by kernel_rfl) (e8 (by kernel_rfl))
theorem b82:p8 Tryz.prog 82 fun E=>j6 E ze0:=q9 mx Tryz.func82 (by kernel_rfl) (e8 (by kernel_rfl))
theorem b83:p8 Tryz.prog 83 fun E=>j6 E ze1:=q9 mx Tryz.func83 (by kernel_rfl) (e8 (by kernel_rfl))
theorem b84:p8 Tryz.prog 84 fun E=>j6 E ze2:=q9 mx Tryz.func84 (by kernel_rfl) (e8 (by kernel_rfl))
theorem b85:p8 Tryz.prog 85 fun E=>j6 E ze3:=q9 mx Tryz.func85 (by kernel_rfl) (e8 (by kernel_rfl))
theorem b86:p8 Tryz.prog 86 fun E=>j6 E ze4:=q9 mx Tryz.func86 (by kernel_rfl) (e8 (by kernel_rfl))
theorem b87:p8 Tryz.prog 87 fun E=>j6 E ze5:=q9 mx Tryz.func87 (by kernel_rfl) (e8 (by kernel_rfl))
theorem b88:p8 Tryz.prog 88 fun E=>j6 E ze6:=q9 mx Tryz.func88 (by kernel_rfl) (e8 (by kernel_rfl))
theorem b89:p8 Tryz.prog 89 fun E=>Db4 E Xd1:=de7 (h:=h89) mx Tryz.func89 (by kernel_rfl) Tryz.func217 (by kernel_rfl) (e8 (by kernel_rfl))
theorem b90:p8 Tryz.prog 90 fun E=>j6 E Xd2:=q9 mx Tryz.func90 (by kernel_rfl) (e8 (by kernel_rfl))
theorem b91:p8 Tryz.prog 91 fun E=>j6 E ze7:=q9 mx Tryz.func91 (by kernel_rfl) (e8 (by kernel_rfl))
theorem b92:p8 Tryz.prog 92 fun E=>j6 E ze8:=q9 mx Tryz.func92 (by kernel_rfl) (e8 (by kernel_rfl))
theorem b93:p8 Tryz.prog 93 fun E=>j6 E ke0:=q9 mx Tryz.func93 (by kernel_rfl) (e8 (by kernel_rfl))
theorem b94:p8 Tryz.prog 94 fun E=>j6 E ze9:=q9 mx Tryz.func94 (by kernel_rfl) (e8 (by kernel_rfl))
theorem b95:p8 Tryz.prog 95 fun E=>j6 E Ae0:=q9 mx Tryz.func95 (by kernel_rfl) (e8 (by kernel_rfl))
theorem b96:p8 Tryz.prog 96 fun E=>j6 E Ae1:=q9 mx Tryz.func96 (by kernel_rfl) (e8 (by kernel_rfl))
theorem b97:p8 Tryz.prog 97 fun E=>j6 E Ae2:=q9 mx Tryz.func97 (by kernel_rfl) (e8 (by kernel_rfl))
theorem b98:p8 Tryz.prog 98 fun E=>j6 E Ae3:=q9 mx Tryz.func98 (by kernel_rfl) (e8 (by kernel_rfl))
theorem b99:p8 Tryz.prog 99 fun E=>j6 E qe8:=q9 mx Tryz.func99 (by kernel_rfl) (e8 (by kernel_rfl))
theorem Ae4:p8 Tryz.prog 100 fun E=>j6 E qe9:=q9 mx Tryz.func100 (by kernel_rfl) (e8 (by kernel_rfl))
theorem Ae5:p8 Tryz.prog 101 fun E=>j6 E de8:=q9 mx Tryz.func101 (by kernel_rfl) (e8 (by kernel_rfl))
theorem Ae6:p8 Tryz.prog 102 fun E=>j6 E re0:=q9 mx Tryz.func102 (by kernel_rfl) (e8 (by kernel_rfl))
theorem Ae7:p8 Tryz.prog 104 fun E=>j6 E re1:=q9 mx Tryz.func104 (by kernel_rfl) (e8 (by kernel_rfl))
theorem Ae8:p8 Tryz.prog 105 fun E=>j6 E Nd0:=q9 mx Tryz.func105 (by kernel_rfl) (e8 (by kernel_rfl))
theorem Ae9:p8 Tryz.prog 107 fun E=>j6 E re2:=q9 mx Tryz.func107 (by kernel_rfl) (e8 (by kernel_rfl))
theorem Be0:p8 Tryz.prog 108 fun E=>j6 E re3:=q9 mx Tryz.func108 (by kernel_rfl) (e8 (by kernel_rfl))
theorem Be1:p8 Tryz.prog 109 fun E=>j6 E re4:=q9 mx Tryz.func109 (by kernel_rfl) (e8 (by kernel_rfl))
theorem Be2:p8 Tryz.prog 110 fun E=>j6 E de9:=q9 mx Tryz.func110 (by kernel_rfl) (e8 (by kernel_rfl))
theorem ue0:p8 Tryz.prog 111 fun E=>j6 E re5:=q9 mx Tryz.func111 (by kernel_rfl) (e8 (by kernel_rfl))
theorem Be3:p8 Tryz.prog 112 fun E=>j6 E yd5:=q9 mx Tryz.func112 (by kernel_rfl) (e8 (by kernel_rfl))
theorem ue1:p8 Tryz.prog 113 fun E=>j6 E re6:=q9 mx Tryz.func113 (by kernel_rfl) (e8 (by kernel_rfl))
theorem Be4:p8 Tryz.prog 114 fun E=>j6 E re7:=q9 mx Tryz.func114 (by kernel_rfl) (e8 (by kernel_rfl))
theorem Be5:p8 Tryz.prog 115 fun E=>j6 E re8:=q9 mx Tryz.func115 (by kernel_rfl) (e8 (by kernel_rfl))
theorem Be6:p8 Tryz.prog 118 fun E=>j6 E re9:=q9 mx Tryz.func118 (by kernel_rfl) (e8 (by kernel_rfl))
theorem Be7:p8 Tryz.prog 119 fun E=>j6 E se0:=q9 mx Tryz.func119 (by kernel_rfl) (e8 (by kernel_rfl))
theorem Be8:p8 Tryz.prog 124 fun E=>j6 E gd9:=q9 mx Tryz.func124 (by kernel_rfl) (e8 (by kernel_rfl))
theorem Be9:p8 Tryz.prog 126 fun E=>j6 E se1:=q9 mx Tryz.func126 (by kernel_rfl) (e8 (by kernel_rfl))
theorem Ce0:p8 Tryz.prog 129 fun E=>j6 E se2:=q9 mx Tryz.func129 (by kernel_rfl) (e8 (by kernel_rfl))
theorem Ce1:p8 Tryz.prog 130 fun E=>j6 E se3:=q9 mx Tryz.func130 (by kernel_rfl) (e8 (by kernel_rfl))
theorem Ce2:p8 Tryz.prog 142 fun E=>j6 E se4:=q9 mx Tryz.func142 (by kernel_rfl) (e8 (by kernel_rfl))
theorem Ce3:p8 Tryz.prog 157 fun E=>j6 E se5:=q9 mx Tryz.func157 (by kernel_rfl) (e8 (by kernel_rfl))
theorem ke1:p8 Tryz.prog 163 fun E=>j6 E yd6:=q9 mx Tryz.func163 (by kernel_rfl) (e8 (by kernel_rfl))
theorem Ce4:p8 Tryz.prog 164 fun E=>j6 E ee0:=q9 mx Tryz.func164 (by kernel_rfl) (e8 (by kernel_rfl))
theorem Ce5:p8 Tryz.prog 165 fun E=>j6 E Nd1:=q9 mx Tryz.func165 (by kernel_rfl) (e8 (by kernel_rfl))
theorem Ce6:p8 Tryz.prog 166 fun E=>j6 E ee1:=q9 mx Tryz.func166 (by kernel_rfl) (e8 (by kernel_rfl))
theorem Ce7:p8 Tryz.prog 167 fun E=>j6 E ee2:=q9 mx Tryz.func167 (by kernel_rfl) (e8 (by kernel_rfl))
theorem Ce8:p8 Tryz.prog 168 fun E=>j6 E se6:=q9 mx Tryz.func168 (by kernel_rfl) (e8 (by kernel_rfl))
theorem Ce9:p8 Tryz.prog 169 fun E=>Db4 E Nd2:=de7 (h:=qe0) mx Tryz.func169 (by kernel_rfl) Tryz.func216 (by kernel_rfl) (e8 (by kernel_rfl))
theorem De0:p8 Tryz.prog 170 fun E=>j6 E ee3:=q9 mx Tryz.func170 (by kernel_rfl) (e8 (by kernel_rfl))
theorem De1:p8 Tryz.prog 171 fun E=>j6 E se7:=q9 mx Tryz.func171 (by kernel_rfl) (e8 (by kernel_rfl))
theorem De2:p8 Tryz.prog 172 fun E=>j6 E se8:=q9 mx Tryz.func172 (by kernel_rfl) (e8 (by kernel_rfl))
theorem De3:p8 Tryz.prog 173 fun E=>j6 E ee4:=q9 mx Tryz.func173 (by kernel_rfl) (e8 (by kernel_rfl))
theorem De4:p8 Tryz.prog 174 fun E=>j6 E se9:=q9 mx Tryz.func174 (by kernel_rfl) (e8 (by kernel_rfl))
theorem De5:p8 Tryz.prog 175 fun E=>j6 E te0:=q9 mx Tryz.func175 (by kernel_rfl) (e8 (by kernel_rfl))
theorem De6:p8 Tryz.prog 176 fun E=>j6 E te1:=q9 mx Tryz.func176 (by kernel_rfl) (e8 (by kernel_rfl))
theorem De7:p8 Tryz.prog 179 fun E=>j6 E te2:=q9 mx Tryz.func179 (by kernel_rfl) (e8 (by kernel_rfl))
theorem De8:p8 Tryz.prog 180 fun E=>j6 E ee5:=q9 mx Tryz.func180 (by kernel_rfl) (e8 (by kernel_rfl))
theorem De9:p8 Tryz.prog 181 fun E=>j6 E te3:=q9 mx Tryz.func181 (by kernel_rfl) (e8 (by kernel_rfl))
theorem Ee0:p8 Tryz.prog 182 fun E=>j6 E ee6:=q9 mx Tryz.func182 (by kernel_rfl) (e8 (by kernel_rfl))
theorem Ee1:p8 Tryz.prog 183 fun E=>j6 E ee7:=q9 mx Tryz.func183 (by kernel_rfl) (e8 (by kernel_rfl))
theorem Ee2:p8 Tryz.prog 184 fun E=>j6 E ee8:=q9 mx Tryz.func184 (by kernel_rfl) (e8 (by kernel_rfl))
theorem ue2:p8 Tryz.prog 185 fun E=>j6 E Nd3:=q9 mx Tryz.func185 (by kernel_rfl) (e8 (by kernel_rfl))
theorem Ee3:p8 Tryz.prog 186 fun E=>j6 E te4:=q9 mx Tryz.func186 (by kernel_rfl) (e8 (by kernel_rfl))
theorem Ee4:p8 Tryz.prog 187 fun E=>j6 E te5:=q9 mx Tryz.func187 (by kernel_rfl) (e8 (by kernel_rfl))
theorem Ee5:p8 Tryz.prog 194 fun E=>j6 E te6:=q9 mx Tryz.func194 (by kernel_rfl) (e8 (by kernel_rfl))
theorem Ee6:p8 Tryz.prog 207 fun E=>j6 E ee9:=q9 mx Tryz.func207 (by kernel_rfl) (e8 (by kernel_rfl))
theorem Ee7:p8 Tryz.prog 214 fun E=>j6 E te7:=q9 mx Tryz.func214 (by kernel_rfl) (e8 (by kernel_rfl))
theorem Ee8:p8 Tryz.prog 215 fun E=>j6 E te8:=q9 mx Tryz.func215 (by kernel_rfl) (e8 (by kernel_rfl))
theorem Ee9:p8 Tryz.prog 217 fun E=>j6 E fe0:=q9 mx Tryz.func217 (by kernel_rfl) (e8 (by kernel_rfl))
theorem Fe0:p8 Tryz.prog 218 fun E=>j6 E Nd4:=q9 mx Tryz.func218 (by kernel_rfl) (e8 (by kernel_rfl))
theorem Fe1:p8 Tryz.prog 219 fun E=>j6 E te9:=q9 mx Tryz.func219 (by kernel_rfl) (e8 (by kernel_rfl))
theorem Fe2:p8 Tryz.prog 220 fun E=>j6 E fe1:=q9 mx Tryz.func220 (by kernel_rfl) (e8 (by kernel_rfl))
theorem Fe3:p8 Tryz.prog 221 fun E=>j6 E fe2:=q9 mx Tryz.func221 (by kernel_rfl) (e8 (by kernel_rfl))
end Go.Ev.Ce
end
namespace Go.Ev.L
open Go Go.Ev
noncomputable def Db8:RT→PC→PS2
 | .s a b,.seq x y=>.seq (Db8 a x) (Db8 b y)
 | .c a b,.cond g x y=>.cond g (Db8 a x) (Db8 b y)
 | .b a,.block id x=>.block id (Db8 a x)
 | .i a,.inner f x n c=>.inner f x n (Db8 a c)
 | .u S,_=>.sum S
 | _,c=>.pc c
theorem Uc2 {E:Env} {k:Nat} (rt:RT) (c:PC):Ga0 (fun x=>∀ s,S3 (x.1 s) (I4 E k x.2 s)) (Kb7 rt c)→ca9 E k (Db8 rt c) c:=by
 induction rt generalizing c with
 | p=>intro h;cases c<;>exact .pc _
 | s a b iha ihb =>
  intro h
  cases c with
  | seq x y=>exact .seq (iha x (Ga0.app h).1) (ihb y (Ga0.app h).2)
  | _=>exact .pc _
 | c a b iha ihb =>
  intro h
  cases c with
  | cond g x y=>exact .cond g (iha x (Ga0.app h).1) (ihb y (Ga0.app h).2)
  | _=>exact .pc _
 | b a iha =>
  intro h
  cases c with
  | block id x=>exact .block id (iha x h)
  | _=>exact .pc _
 | l a iha=>intro h;cases c<;>exact .pc _
 | i a iha =>
  intro h
  cases c with
  | inner f x n c=>exact .inner f x n (iha c h)
  | _=>exact .pc _
 | u S =>
  intro h
  have:Kb7 (.u S) c=[(S,c)]:=by cases c<;>rfl
  rw[this] at h
  cases h with
  | cons h t =>
   have e:Db8 (.u S) c=.sum S:=by cases c<;>rfl
   rw[e]
   exact .sum h
section
variable {π σ:Type} {E:Env} {k:Nat} {keep:List Nat} {alts:List (Al2 π σ)} {enc:π→σ→St} {step:π→σ→Stp σ} {xs:Xs π σ} {body:PS2} {c:PC}
theorem Cb6.belowM (hb:ca9 E k body c) (hN:E.N=rounds+1) (w:Cb6 gd8 k keep (ec1 E k body) alts step xs enc) (s:St):S3 (Mc9 gd8 k keep alts step xs s) (I4 E k (.loopM keep c) s):=fun r hr=>by
 obtain⟨t,h1,h2⟩:=w.go hr
 rw[sd9,hN]
 exact sb6 hb.le _ _ _ (Ib6 h1 h2)
theorem Cb6.belowML (hb:ca9 E k body c) (hN:E.N=rounds+1) (w:Cb6 Cb3 k keep (ec1 E k body) alts step xs enc) (s:St):S3 (Mc9 Cb3 k keep alts step xs s) (I4 E k (.loop keep c) s):=fun r hr=>by
 obtain⟨t,h1,h2⟩:=w.go hr
 rw[Mc8,hN]
 exact sb6 hb.le _ _ _ (Ib6 h1 h2)
end
end Go.Ev.L
namespace Go.Ev.Ab
open Go Go.Ev
@[reducible] def o (d:Nat) (x:PO):PI:=⟨some d,none,[],x⟩
@[reducible] def s (x:PO):PI:=⟨none,none,[],x⟩
@[reducible] def cb (b:Bool):Arg:=.c (.v (.bool b))
@[reducible] def vi (n:Int):b7:=.v (.int .i64 n)
@[reducible] def rep {α:Type} (n:Nat) (x:α):List α:=List.replicate n x
@[reducible] def ki (n:Nat):List CK:=List.replicate n (.int .i64)
@[reducible] def mv (d n:Nat):PI:=o d (.mv (.t n))
@[reducible] def mb (d:Nat) (x:Bool):PI:=o d (.mv (cb x))
@[reducible] def fd (d k n:Nat):PI:=o d (.fld k (.t n))
@[reducible] def lf (d k n:Nat):PI:=o d (.load (ki k) k false (.t n))
@[reducible] def ex (d x k:Nat):PI:=o d (.ext (.t x) k)
@[reducible] def gf (n:Nat) (x:PI):PI:=⟨x.dst,some (n,false),x.hide,x.op⟩
@[reducible] def so (l:List PI) (x:PC):PC:=.seq (.ops l) x
@[reducible] def ts (l:List Nat):List Arg:=l.map .t
@[reducible] def cl (f:Nat) (l:List Nat):PO:=.call f (ts l)
@[reducible] def sT (k a b:Nat):PI:=s (.store k (.t a) (.t b))
@[reducible] def pa (d c x:Nat):PI:=o d (.pick (.t c) (.t x) (cb false))
@[reducible] def po (d c x:Nat):PI:=o d (.pick (.t c) (cb true) (.t x))
@[reducible] def al (d k:Nat) (n:Int):PI:=o d (.alloc (rep k (vi n)))
@[reducible] def ap (d et es n x y:Nat):PI:=o d (.append et es n (.t x) (.t y))
end Go.Ev.Ab
namespace Go.Ev.L
open Go Go.Ev
def Cps {π σ:Type} (u:∀ {α:Type},(σ→α)→(Nat→α)→α→π→σ→α):Prop :=
 ∀ {α β:Type} (F:α→β) (k:σ→α) (e:Nat→α) (z:α) (p:π) (s:σ),F (u k e z p s)=u (fun x=>F (k x)) (fun t=>F (e t)) (F z) p s
@[reducible] noncomputable def foL {π σ:Type} (en:π→σ→St) (xs:Xs π σ) (p:π) (s:σ):Stp σ→Option (c9×St):=Cb4 (fun s'=>some (.normal,en p s')) (fun t=>xOf xs p s t 1) none
structure Lo (π σ:Type) where
 E:Env
 k:Nat
 F:PFn
 at':List Nat
 kp:List Nat
 rt:RT
 al:List (Al2 π σ)
 st:π→σ→Stp σ
 xs:Xs π σ
 en:π→σ→St
namespace Lo
variable {π σ:Type} (L:Lo π σ)
noncomputable def lc:PC:=xe1 L.at' L.F.body
noncomputable def ls:St→DT (c9×St):=Mc9 Cb3 L.k L.kp L.al L.st L.xs
noncomputable def lsM:St→DT (c9×St):=Mc9 gd8 L.k L.kp L.al L.st L.xs
noncomputable def pr:(St→DT (c9×St))×PC:=(L.ls,.loop L.kp L.lc)
noncomputable def prM:(St→DT (c9×St))×PC:=(L.lsM,.loopM L.kp L.lc)
def Ok:Prop:=∀ s,Y2 L.k L.F.res (L.pr.1 s) (I4 L.E L.k L.pr.2 s)
def OkE:Prop:=∀ s,S3 (L.pr.1 s) (I4 L.E L.k L.pr.2 s)
def OkM:Prop:=∀ s,S3 (L.prM.1 s) (I4 L.E L.k L.prM.2 s)
def Rd (hd:St→DT St) (bd:St→DT (c9×St)) (p:π) (s:σ) (a:St) (b:Stp σ):Prop:=(sb7 hd bd a).run=foL L.en L.xs p s b
def H0:Prop:=∀ p s,L.Rd (Cb3 L.k L.kp) (xd1 L.E L.k L.F.res (Ec6 L.rt L.lc)) p s (L.en p s) (L.st p s)
def H1:Prop:=∀ p s,L.Rd (Cb3 L.k L.kp) (ec1 L.E L.k (Db8 L.rt L.lc)) p s (L.en p s) (L.st p s)
def H2:Prop:=∀ p s,L.Rd (gd8 L.k L.kp) (ec1 L.E L.k (Db8 L.rt L.lc)) p s (L.en p s) (L.st p s)
def HA:Prop:=Ga0 (fun x=>∀ a H,(⟨Dd7 x.sh a,Dd8 x.bl H⟩:St)=L.en (x.rd a H).1 (x.rd a H).2) L.al
variable {L}
theorem Rd.of {hd : St → DT St} {bd : St → DT (c9 × St)} {p : π} {s : σ} {a : St} (u : ∀ {α : Type}, (σ → α) → (Nat → α) → α → π → σ → α)
  (q:Cps @u) (H:(sb7 hd bd a).run=u (fun x=>foL L.en L.xs p s (.next x)) (fun t=>foL L.en L.xs p s (.exit t)) (foL L.en L.xs p s .fail) p s):L.Rd hd bd p s a (u .next .exit .fail p s) :=
 H.trans (q (foL L.en L.xs p s) Stp.next Stp.exit Stp.fail p s).symm
theorem Rd.sel {hd:St→DT St} {bd:St→DT (c9×St)} {p:π} {s:σ} {a1 a0:St} {b1 b0:Stp σ} (c:Bool) (h1:L.Rd hd bd p s a1 b1) (h0:L.Rd hd bd p s a0 b0):L.Rd hd bd p s (sel c a1 a0) (sel c b1 b0):=by
 cases c with
 | true=>exact h1
 | false=>exact h0
theorem ok (l:List ((St→DT (c9×St))×PC)) (hs:Kb7 L.rt L.lc=l) (hl:Ga0 (fun x=>∀ s,Y2 L.k L.F.res (x.1 s) (I4 L.E L.k x.2 s)) l) (hN:L.E.N=rounds+1) (ha:L.HA) (h:L.H0):L.Ok :=
 Cb6.belowC (xd8 _ _ (by rw[hs];exact hl)) hN ⟨ha,h⟩
theorem okE (l:List ((St→DT (c9×St))×PC)) (hs:Kb7 L.rt L.lc=l) (hl:Ga0 (fun x=>∀ s,S3 (x.1 s) (I4 L.E L.k x.2 s)) l) (hN:L.E.N=rounds+1) (ha:L.HA) (h:L.H1):L.OkE :=
 Cb6.belowML (Uc2 _ _ (by rw[hs];exact hl)) hN ⟨ha,h⟩
theorem okM (l:List ((St→DT (c9×St))×PC)) (hs:Kb7 L.rt L.lc=l) (hl:Ga0 (fun x=>∀ s,S3 (x.1 s) (I4 L.E L.k x.2 s)) l) (hN:L.E.N=rounds+1) (ha:L.HA) (h:L.H2):L.OkM :=
 Cb6.belowM (Uc2 _ _ (by rw[hs];exact hl)) hN ⟨ha,h⟩
end Lo
theorem ya4 {E : Env} {F : PFn} {args : List b7} {blks : List b8} {o : Option (b7 × List b8)} (rt : RT) (l : List ((St → DT (c9 × St)) × PC)) (hs : Kb7 rt F.body = l)
  (hl:Ga0 (fun x=>∀ s,Y2 (len blks) F.res (x.1 s) (I4 E (len blks) x.2 s)) l) (h:(oe9 E F (Ec6 rt F.body) args blks).run=o) (r:b7×List b8) (hr:o=some r):(j6 E F args blks).run=some r :=
 rd5 (xd8 rt _ (by rw[hs];exact hl)) r (h.trans hr)
theorem fe3 {E : Env} {F : PFn} {args : List b7} {blks : List b8} {o : Option (b7 × List b8)} (rt : RT) (l : List ((St → DT (c9 × St)) × PC)) (hs : Kb7 rt F.body = l)
  (hl:Ga0 (fun x=>∀ s,S3 (x.1 s) (I4 E (len blks) x.2 s)) l) (h:(de6 E F (Db8 rt F.body) args blks).run=o) (r:b7×List b8) (hr:o=some r):(Db4 E F args blks).run=some r :=
 gd7 (Uc2 rt _ (by rw[hs];exact hl)) r (h.trans hr)
theorem r4 {A o:Option (b7×List b8)} (h:A=o) (r:b7×List b8) (hr:o=some r):A=some r:=h.trans hr
end Go.Ev.L
namespace Go.Ev.Ce
structure V3 where
 x:Int
 y:Int
 z:Int
structure Pln where
 n:V3
 b:Int
structure Pt where
 px:Int
 py:Int
 pz:Int
 pw:Int
def E4 (a b:V3):V3:=⟨a.y*b.z - a.z*b.y,a.z*b.x - a.x*b.z,a.x*b.y - a.y*b.x⟩
def dot (a b:V3):Int:=a.x*b.x+a.y*b.y+a.z*b.z
def mw (p q r:Pln):Int:=dot p.n (E4 q.n r.n)
end Go.Ev.Ce
namespace Go.Ev.Ce
open Go Go.Ev Go.Ev.L Go.Proofs
@[reducible] noncomputable def prog:Program:=Tryz.prog
noncomputable def G:Nat→List Value:=fun _=>[]
noncomputable def En (l:List (Nat×Sum)):Env:={ P:=prog,G,fns:=fun _=>none,call:=ie1 l,own:=fun f j=>Bool.and (Oa5 f [99,103,105,135,163,198,200,202]) (Nat.beq j 0),N:=18446744073709551616 }
@[reducible] def u:b7:=.v (.tuple #[])
theorem ue3 {l:List (Nat×Sum)} (h:j7 prog G l):∀ f,g7 (En l).P (En l).G f ((En l).call f):=wd9 h
theorem bd {l:List (Nat×Sum)} {f:FuncId} {R:Env→Sum} (b:p8 prog f R) (h:j7 prog G l):g7 prog G f (R (En l)):=b rfl (ue3 h)
noncomputable def tV:Ty V3 where
 es:=3
 row x:=[i x.x,i x.y,i x.z]
 rd r:=⟨toI (hdA r),toI (hdA (tlA r)),toI (hdA (tlA (tlA r)))⟩
 ok r:=sa0 3 r
 cks:=List.replicate 3 (.int .i64)
 d:=⟨0,0,0⟩
 h0 _:=rfl
 h1 _:=rfl
 h2 _:=rfl
 h3 _ h:=.of (Da7 h)
 h4 _:=rfl
 h5 _:=rfl
noncomputable def r1V:R1 V3:=r1A tV 3 fun _ h=>h
noncomputable def tP:Ty Pln where
 es:=4
 row x:=[i x.n.x,i x.n.y,i x.n.z,i x.b]
 rd r:=⟨⟨toI (hdA r),toI (hdA (tlA r)),toI (hdA (tlA (tlA r)))⟩,toI (hdA (tlA (tlA (tlA r))))⟩
 ok r:=sa0 4 r
 cks:=List.replicate 4 (.int .i64)
 d:=⟨⟨0,0,0⟩,0⟩
 h0 _:=rfl
 h1 _:=rfl
 h2 _:=rfl
 h3 _ h:=.of (Da7 h)
 h4 _:=rfl
 h5 _:=rfl
noncomputable def r1P:R1 Pln:=r1A tP 4 fun _ h=>h
noncomputable def tX:Ty Pt where
 es:=4
 row x:=[i x.px,i x.py,i x.pz,i x.pw]
 rd r:=⟨toI (hdA r),toI (hdA (tlA r)),toI (hdA (tlA (tlA r))),toI (hdA (tlA (tlA (tlA r))))⟩
 ok r:=sa0 4 r
 cks:=List.replicate 4 (.int .i64)
 d:=⟨0,0,0,0⟩
 h0 _:=rfl
 h1 _:=rfl
 h2 _:=rfl
 h3 _ h:=.of (Da7 h)
 h4 _:=rfl
 h5 _:=rfl
noncomputable def r1X:R1 Pt:=r1A tX 4 fun _ h=>h
structure Tp where
 p:Pln
 q:Pln
 r:Pln
noncomputable def tY:Ty Tp where
 es:=12
 row x:=[i x.p.n.x,i x.p.n.y,i x.p.n.z,i x.p.b,i x.q.n.x,i x.q.n.y,i x.q.n.z,i x.q.b,i x.r.n.x,i x.r.n.y,i x.r.n.z,i x.r.b]
 rd r:=⟨⟨⟨toI (hdA r),toI (hdA (tlA r)),toI (hdA (tlA (tlA r)))⟩,toI (hdA (tlA (tlA (tlA r))))⟩,⟨⟨toI (hdA (tlA (tlA (tlA (tlA r))))),toI (hdA (tlA (tlA (tlA (tlA (tlA r)))))),toI (hdA (tlA (tlA (tlA (tlA (tlA (tlA r)))))))⟩,toI (hdA (tlA (tlA (tlA (tlA (tlA (tlA (tlA r))))))))⟩,⟨⟨toI (hdA (tlA (tlA (tlA (tlA (tlA (tlA (tlA (tlA r))))))))),toI (hdA (tlA (tlA (tlA (tlA (tlA (tlA (tlA (tlA (tlA r)))))))))),toI (hdA (tlA (tlA (tlA (tlA (tlA (tlA (tlA (tlA (tlA (tlA r)))))))))))⟩,toI (hdA (tlA (tlA (tlA (tlA (tlA (tlA (tlA (tlA (tlA (tlA (tlA r))))))))))))⟩⟩
 ok r:=sa0 12 r
 cks:=List.replicate 12 (.int .i64)
 d:=⟨⟨⟨0,0,0⟩,0⟩,⟨⟨0,0,0⟩,0⟩,⟨⟨0,0,0⟩,0⟩⟩
 h0 _:=rfl
 h1 _:=rfl
 h2 _:=rfl
 h3 _ h:=.of (Da7 h)
 h4 _:=rfl
 h5 _:=rfl
structure Q2 where
 a:V3
 b:V3
noncomputable def tQ:Ty Q2 where
 es:=6
 row x:=[i x.a.x,i x.a.y,i x.a.z,i x.b.x,i x.b.y,i x.b.z]
 rd r:=⟨⟨toI (hdA r),toI (hdA (tlA r)),toI (hdA (tlA (tlA r)))⟩,⟨toI (hdA (tlA (tlA (tlA r)))),toI (hdA (tlA (tlA (tlA (tlA r))))),toI (hdA (tlA (tlA (tlA (tlA (tlA r))))))⟩⟩
 ok r:=sa0 6 r
 cks:=List.replicate 6 (.int .i64)
 d:=⟨⟨0,0,0⟩,⟨0,0,0⟩⟩
 h0 _:=rfl
 h1 _:=rfl
 h2 _:=rfl
 h3 _ h:=.of (Da7 h)
 h4 _:=rfl
 h5 _:=rfl
end Go.Ev.Ce
section
namespace Go.Ev.Ce
open Go Go.Ev Go.Ev.L Go.Proofs
set_option maxRecDepth 100000
noncomputable def hd4:List (Nat×Sum):=[]
theorem Uc3:j7 prog G hd4:=trivial
noncomputable def ab7 (x:Pln) (y:Pt):Int:=(W ((W ((W ((W (x.b*y.pw)) - (W (x.n.x*y.px)))) - (W (x.n.y*y.py)))) - (W (x.n.z*y.pz))))
noncomputable def Qb1:Sum:=ja0 (R2 tP) (R2 tX) (fun x y=>.ret ((one r1I).enc (ab7 x y),[]))
theorem jc5:g7 prog G 37 Qb1:=wa1 (bd b37 Uc3) fun x y=>r4 (by kernel_rfl)
noncomputable def td0:List (Nat×Sum):=[]
theorem hd5:j7 prog G td0:=trivial
noncomputable def Ya6 (x:V3) (y:V3):V3:=(⟨(W (x.x+y.x)),(W (x.y+y.y)),(W (x.z+y.z))⟩:V3)
noncomputable def Nc9:Sum:=ja0 (R2 tV) (R2 tV) (fun x y=>.ret ((one r1V).enc (Ya6 x y),[]))
theorem td1:g7 prog G 126 Nc9:=wa1 (bd Be9 hd5) fun x y=>r4 (by kernel_rfl)
noncomputable def td2:List (Nat×Sum):=[]
theorem hd6:j7 prog G td2:=trivial
noncomputable def Da9 (x:V3) (y:V3):Int:=(W ((W ((W (x.x*y.x))+(W (x.y*y.y))))+(W (x.z*y.z))))
noncomputable def Jb4:Sum:=ja0 (R2 tV) (R2 tV) (fun x y=>.ret ((one r1I).enc (Da9 x y),[]))
theorem Qb2:g7 prog G 130 Jb4:=wa1 (bd Ce1 hd6) fun x y=>r4 (by kernel_rfl)
noncomputable def Uc4:List (Nat×Sum):=[]
theorem Ec7:j7 prog G Uc4:=trivial
noncomputable def O4 (x:V3) (y:V3):V3:=(⟨(W ((W (x.y*y.z)) - (W (x.z*y.y)))),(W ((W (x.z*y.x)) - (W (x.x*y.z)))),(W ((W (x.x*y.y)) - (W (x.y*y.x))))⟩:V3)
noncomputable def Db9:Sum:=ja0 (R2 tV) (R2 tV) (fun x y=>.ret ((one r1V).enc (O4 x y),[]))
theorem Wb3:g7 prog G 186 Db9:=wa1 (bd Ee3 Ec7) fun x y=>r4 (by kernel_rfl)
noncomputable def Ec8:List (Nat×Sum):=[]
theorem wc1:j7 prog G Ec8:=trivial
noncomputable def M9 (x:V3) (y:Int):V3:=(⟨(W (x.x*y)),(W (x.y*y)),(W (x.z*y))⟩:V3)
noncomputable def Wb4:Sum:=ja0 (R2 tV) cI (fun x y=>.ret ((one r1V).enc (M9 x y),[]))
theorem Ec9:g7 prog G 219 Wb4:=wa1 (bd Fe1 wc1) fun x y=>r4 (by kernel_rfl)
noncomputable def Mb6:List (Nat×Sum):=[]
theorem wc2:j7 prog G Mb6:=trivial
structure sa1 where
structure T8 where
 is0:Int
 is1:Int
noncomputable def mc1 (p:sa1) (s:T8):St:=⟨((i s.is0)::((i s.is1)::(ra 10 []))),[]⟩
noncomputable def ja2 {α:Type} (k:T8→α) (e:Nat→α) (z:α) (p:sa1) (s:T8):α:=(sl (s.is1 != 0) (sl (s.is1==0) z (k ⟨s.is1,(Int.tmod s.is0 s.is1)⟩)) (e 1))
noncomputable def na0 (p:sa1) (s:T8):Stp T8:=ja2 .next .exit .fail p s
noncomputable def ab8:Lo sa1 T8:=⟨En Mb6,0,fe1,[1,0,4,4],[0,1],.p,[⟨((.s (.o (.int .i64)))::((.s (.o (.int .i64)))::(ru2 10 []))),[],fun a H=>(⟨⟩,⟨(toI (slT a 0)),(toI (slT a 1))⟩)⟩],na0,[(some 0,fun p s=>⟨((i s.is0)::((i s.is1)::(ra 3 ((i s.is1)::((b (s.is1 != 0))::(ra 5 [])))))),[]⟩)],mc1⟩
theorem mc2:ab8.Ok:=Lo.ok [] (by kernel_rfl) .nil rfl (.cons (fun a H=>by kernel_rfl) .nil) fun p s=>(.of @ja2 (fun F _ _ _ _ _=>by unfold ja2;(repeat' apply l7 (f:=F))<;>rfl) (by kernel_rfl))
noncomputable def Ga2 (x:Int) (y:Int):Option (b7×List b8):=let t1:=(lp (na0 (⟨⟩:sa1)) (⟨x,y⟩:T8));(sl (Nat.beq t1.1 1) (some ((i t1.2.is0),[])) none)
noncomputable def N0 (x:Int) (y:Int):Int:=I5 (one r1I) (Ga2 x y)
noncomputable def N1 (x:Int) (y:Int):Bool:=okO (one r1I) (Ga2 x y)
noncomputable def Wb5:Sum:=ja0 cI cI (fun x y=>.guard (N1 x y) (.ret ((one r1I).enc (N0 x y),[])))
theorem Fc0:g7 prog G 220 Wb5:=eb7 (bd Fe2 wc2) (one r1I) (o:=Ga2) fun x y=>ya4 (.s .p (.s (.b (.u ab8.ls)) .p)) [ab8.pr] (by kernel_rfl) (.cons mc2 .nil) (by kernel_rfl)
noncomputable def hd7:List (Nat×Sum):=[(186,Db9),(130,Jb4),(219,Wb4),(126,Nc9),(220,Wb5)]
theorem Uc5:j7 prog G hd7:=⟨Wb3,Qb2,Ec9,td1,Fc0,trivial⟩
noncomputable def ab9 (x:Pln) (y:Pln) (z:Pln):Option (b7×List b8):=let t1:=(O4 y.n z.n);let t2:=(Da9 x.n t1);let t3:=(M9 t1 x.b);let t4:=(O4 z.n x.n);let t5:=(M9 t4 y.b);let t6:=(Ya6 t3 t5);let t7:=(O4 x.n y.n);let t8:=(M9 t7 z.b);let t9:=(Ya6 t6 t8);let t10:=(M9 t9 (-1));let t11:=(N0 (if (W (0 - t10.x)) > t10.x then (W (0 - t10.x)) else t10.x) (if (W (0 - t10.y)) > t10.y then (W (0 - t10.y)) else t10.y));let t12:=(N0 (if (W (0 - t10.z)) > t10.z then (W (0 - t10.z)) else t10.z) (W (0 - t2)));let t13:=(N0 t11 t12);let t14:=(N0 (if (W (0 - t9.x)) > t9.x then (W (0 - t9.x)) else t9.x) (if (W (0 - t9.y)) > t9.y then (W (0 - t9.y)) else t9.y));let t15:=(N0 (if (W (0 - t9.z)) > t9.z then (W (0 - t9.z)) else t9.z) t2);let t16:=(N0 t14 t15);(sl (t2==0) (some ((.tup [(.agg [(i 0),(i 0),(i 0),(i 0)]),(b false)]),[])) (sl (decide (t2 < 0)) (sl (N1 (if (W (0 - t10.x)) > t10.x then (W (0 - t10.x)) else t10.x) (if (W (0 - t10.y)) > t10.y then (W (0 - t10.y)) else t10.y)) (sl (N1 (if (W (0 - t10.z)) > t10.z then (W (0 - t10.z)) else t10.z) (W (0 - t2))) (sl (N1 t11 t12) (sl (t13==0) none (sl (t13==0) none (sl (t13==0) none (sl (t13==0) none (some ((.tup [(.agg [(i (W (Int.tdiv t10.x t13))),(i (W (Int.tdiv t10.y t13))),(i (W (Int.tdiv t10.z t13))),(i (W (Int.tdiv (W (0 - t2)) t13)))]),(b true)]),[])))))) none) none) none) (sl (N1 (if (W (0 - t9.x)) > t9.x then (W (0 - t9.x)) else t9.x) (if (W (0 - t9.y)) > t9.y then (W (0 - t9.y)) else t9.y)) (sl (N1 (if (W (0 - t9.z)) > t9.z then (W (0 - t9.z)) else t9.z) t2) (sl (N1 t14 t15) (sl (t16==0) none (sl (t16==0) none (sl (t16==0) none (sl (t16==0) none (some ((.tup [(.agg [(i (W (Int.tdiv t9.x t16))),(i (W (Int.tdiv t9.y t16))),(i (W (Int.tdiv t9.z t16))),(i (W (Int.tdiv t2 t16)))]),(b true)]),[])))))) none) none) none)))
noncomputable def bb0 (x:Pln) (y:Pln) (z:Pln):Pt×Bool:=I5 (two r1X r1B) (ab9 x y z)
noncomputable def bb1 (x:Pln) (y:Pln) (z:Pln):Bool:=okO (two r1X r1B) (ab9 x y z)
noncomputable def wc3:Sum:=mc0 (R2 tP) (R2 tP) (R2 tP) (fun x y z=>.guard (bb1 x y z) (.ret ((two r1X r1B).enc (bb0 x y z),[])))
theorem hd8:g7 prog G 172 wc3:=Vd2 (bd De2 Uc5) (two r1X r1B) (o:=ab9) fun x y z=>r4 (by kernel_rfl)
noncomputable def Oc0:List (Nat×Sum):=[(37,Qb1)]
theorem td3:j7 prog G Oc0:=⟨jc5,trivial⟩
structure bb2 where
 c8:List Pln
 i5:Int
 c7:Int
 i6:Int
 d9:Int
structure ma2 where
 is5:Int
noncomputable def hd9 (p:bb2) (s:ma2):St:=⟨((eL tP p.c8)::(.unk::(.unk::((.ptr 0 0 0 0)::(.unk::((i s.is5)::(ra 13 []))))))),[⟨0,4,[[(i p.i5),(i p.c7),(i p.i6),(i p.d9)]],true,false,0⟩]⟩
noncomputable def Ga3 {α:Type} (k:ma2→α) (e:Nat→α) (z:α) (p:bb2) (s:ma2):α:=let t1:=(ab7 (gL tP p.c8 s.is5.toNat) (⟨p.i5,p.c7,p.i6,p.d9⟩:Pt));(sl (decide (s.is5 < (↑(List.length p.c8):Int))) (sl (inB s.is5 (List.length p.c8)) (sl (decide (t1 < 0)) (e 1) (k ⟨(W (s.is5+1))⟩)) z) (e 2))
noncomputable def Oa8 (p:bb2) (s:ma2):Stp ma2:=Ga3 .next .exit .fail p s
noncomputable def Qb3:Lo bb2 ma2:=⟨En Oc0,0,de9,[1,0,1,4,4],[0,3,5],.p,[⟨((.s (.c 4 (nL tP)))::((.s (.o .unk))::((.s (.o .unk))::((.s (.o (.ptr 0 0 0 0)))::((.s (.o .unk))::((.s (.o (.int .i64)))::(ru2 13 []))))))),[⟨0,4,true,(some [[(.o (.int .i64)),(.o (.int .i64)),(.o (.int .i64)),(.o (.int .i64))]])⟩],fun a H=>(⟨(rL tP (slT a 0)),(toI (slT (rwT (elT H 0) 0) 0)),(toI (slT (rwT (elT H 0) 0) 1)),(toI (slT (rwT (elT H 0) 0) 2)),(toI (slT (rwT (elT H 0) 0) 3))⟩,⟨(toI (slT a 5))⟩)⟩],Oa8,[(none,fun p s=>⟨[(b false)],[]⟩),(some 0,fun p s=>⟨((eL tP p.c8)::(.unk::(.unk::((.ptr 0 0 0 0)::(.unk::((i s.is5)::((i s.is5)::((eL tP p.c8)::((i (↑(List.length p.c8):Int))::((b (decide (s.is5 < (↑(List.length p.c8):Int))))::(ra 9 []))))))))))),[⟨0,4,[[(i p.i5),(i p.c7),(i p.i6),(i p.d9)]],true,false,0⟩]⟩)],hd9⟩
theorem id1:Qb3.Ok:=Lo.ok [] (by kernel_rfl) .nil rfl (.cons (fun a H=>by kernel_rfl) .nil) fun p s=>(.of @Ga3 (fun F _ _ _ _ _=>by unfold Ga3;(repeat' apply l7 (f:=F))<;>rfl) (by kernel_rfl))
noncomputable def Eb0 (x:List Pln) (y:Pt):Option (b7×List b8):=let t1:=(lp (Oa8 (⟨(rt tP x),y.px,y.py,y.pz,y.pw⟩:bb2)) (⟨0⟩:ma2));(sl ((cnE tP x)&&true) (sl (Nat.beq t1.1 1) (some ((b false),[])) (sl (Nat.beq t1.1 2) (some ((b true),[])) none)) none)
noncomputable def ob9 (x:List Pln) (y:Pt):Bool:=I5 (one r1B) (Eb0 x y)
noncomputable def pb0 (x:List Pln) (y:Pt):Bool:=okO (one r1B) (Eb0 x y)
noncomputable def id3:Sum:=ja0 (V2 tP) (R2 tX) (fun x y=>.guard (pb0 x y) (.ret ((one r1B).enc (ob9 x y),[])))
theorem Fd8:g7 prog G 110 id3:=eb7 (bd Be2 td3) (one r1B) (o:=Eb0) fun x y=>ya4 (.s .p (.s (.s .p (.b (.u Qb3.ls))) .p)) [Qb3.pr] (by kernel_rfl) (.cons id1 .nil) (by kernel_rfl)
noncomputable def Wb6:List (Nat×Sum):=[]
theorem Fc1:j7 prog G Wb6:=trivial
structure za0 where
 A3:List Pt
 i5:Int
 c7:Int
 i6:Int
 d9:Int
structure S5 where
 is5:Int
noncomputable def wc4 (p:za0) (s:S5):St:=⟨((eL tX p.A3)::(.unk::(.unk::((.ptr 0 0 0 0)::(.unk::((i s.is5)::(ra 12 []))))))),[⟨0,4,[[(i p.i5),(i p.c7),(i p.i6),(i p.d9)]],true,false,0⟩]⟩
noncomputable def na1 {α:Type} (k:S5→α) (e:Nat→α) (z:α) (p:za0) (s:S5):α:=(sl (decide (s.is5 < (↑(List.length p.A3):Int))) (sl (inB s.is5 (List.length p.A3)) (sl (((gL tX p.A3 s.is5.toNat).px==p.i5)&&(((gL tX p.A3 s.is5.toNat).py==p.c7)&&(((gL tX p.A3 s.is5.toNat).pz==p.i6)&&(((gL tX p.A3 s.is5.toNat).pw==p.d9)&&true)))) (e 1) (k ⟨(W (s.is5+1))⟩)) z) (e 2))
noncomputable def sa2 (p:za0) (s:S5):Stp S5:=na1 .next .exit .fail p s
noncomputable def kb6:Lo za0 S5:=⟨En Wb6,0,ee4,[1,0,1,4,4],[0,3,5],.p,[⟨((.s (.c 4 (nL tX)))::((.s (.o .unk))::((.s (.o .unk))::((.s (.o (.ptr 0 0 0 0)))::((.s (.o .unk))::((.s (.o (.int .i64)))::(ru2 12 []))))))),[⟨0,4,true,(some [[(.o (.int .i64)),(.o (.int .i64)),(.o (.int .i64)),(.o (.int .i64))]])⟩],fun a H=>(⟨(rL tX (slT a 0)),(toI (slT (rwT (elT H 0) 0) 0)),(toI (slT (rwT (elT H 0) 0) 1)),(toI (slT (rwT (elT H 0) 0) 2)),(toI (slT (rwT (elT H 0) 0) 3))⟩,⟨(toI (slT a 5))⟩)⟩],sa2,[(none,fun p s=>⟨[(b true)],[]⟩),(some 0,fun p s=>⟨((eL tX p.A3)::(.unk::(.unk::((.ptr 0 0 0 0)::(.unk::((i s.is5)::((i s.is5)::((eL tX p.A3)::((i (↑(List.length p.A3):Int))::((b (decide (s.is5 < (↑(List.length p.A3):Int))))::(ra 8 []))))))))))),[⟨0,4,[[(i p.i5),(i p.c7),(i p.i6),(i p.d9)]],true,false,0⟩]⟩)],wc4⟩
theorem wc5:kb6.Ok:=Lo.ok [] (by kernel_rfl) .nil rfl (.cons (fun a H=>by kernel_rfl) .nil) fun p s=>(.of @na1 (fun F _ _ _ _ _=>by unfold na1;(repeat' apply l7 (f:=F))<;>rfl) (by kernel_rfl))
noncomputable def Oa9 (x:List Pt) (y:Pt):Option (b7×List b8):=let t1:=(lp (sa2 (⟨(rt tX x),y.px,y.py,y.pz,y.pw⟩:za0)) (⟨0⟩:S5));(sl ((cnE tX x)&&true) (sl (Nat.beq t1.1 1) (some ((b true),[])) (sl (Nat.beq t1.1 2) (some ((b false),[])) none)) none)
noncomputable def Ea0 (x:List Pt) (y:Pt):Bool:=I5 (one r1B) (Oa9 x y)
noncomputable def Ea1 (x:List Pt) (y:Pt):Bool:=okO (one r1B) (Oa9 x y)
noncomputable def jc6:Sum:=ja0 (V2 tX) (R2 tX) (fun x y=>.guard (Ea1 x y) (.ret ((one r1B).enc (Ea0 x y),[])))
theorem Uc6:g7 prog G 173 jc6:=eb7 (bd De3 Fc1) (one r1B) (o:=Oa9) fun x y=>ya4 (.s .p (.s (.s .p (.b (.u kb6.ls))) .p)) [kb6.pr] (by kernel_rfl) (.cons wc5 .nil) (by kernel_rfl)
noncomputable def Ga4:List (Nat×Sum):=[(172,wc3),(110,id3),(173,jc6)]
theorem mc3:j7 prog G Ga4:=⟨hd8,Fd8,Uc6,trivial⟩
structure J2 where
 c8:List Pln
 is4:Int
 is5:Int
structure o9 where
 ph:Nat
 is6:Int
 ns3:Nat
 eh0:List (List b7)
noncomputable def Wb7 (p:J2) (s:o9):St:=⟨((eL tP p.c8)::(.unk::(.unk::((.v (.slice none 0 0))::((i p.is4)::((i p.is5)::((i s.is6)::(ra 57 [])))))))),[]⟩
noncomputable def Wb8 (p:J2) (s:o9):St:=⟨((eL tP p.c8)::(.unk::(.unk::((.sl 0 0 s.ns3 0)::((i p.is4)::((i p.is5)::((i s.is6)::(ra 57 [])))))))),[⟨54,4,s.eh0,true,false,0⟩]⟩
noncomputable def ec2 (p:J2) (s:o9):St:=(sel (Nat.beq s.ph 1) (Wb8 p s) (Wb7 p s))
noncomputable def N2 {α:Type} (k:o9→α) (e:Nat→α) (z:α) (p:J2) (s:o9):α:=let t1:=(bb0 (gL tP p.c8 p.is4.toNat) (gL tP p.c8 p.is5.toNat) (gL tP p.c8 s.is6.toNat));let t2:=(ob9 (rt tP p.c8) t1.1);let t3:=(Ea0 [] t1.1);(sl (decide (s.is6 < (↑(List.length p.c8):Int))) (sl (inB p.is4 (List.length p.c8)) (sl (inB p.is5 (List.length p.c8)) (sl (inB s.is6 (List.length p.c8)) (sl (bb1 (gL tP p.c8 p.is4.toNat) (gL tP p.c8 p.is5.toNat) (gL tP p.c8 s.is6.toNat)) (sl t1.2 (sl (okE tP p.c8) (sl (pb0 (rt tP p.c8) t1.1) (sl t2 (sl (Ea1 [] t1.1) (sl (!t3) (k ⟨1,(W (s.is6+1)),1,[[(i t1.1.px),(i t1.1.py),(i t1.1.pz),(i t1.1.pw)]]⟩) (k ⟨0,(W (s.is6+1)),0,[]⟩)) z) (k ⟨0,(W (s.is6+1)),0,[]⟩)) z) z) (k ⟨0,(W (s.is6+1)),0,[]⟩)) z) z) z) z) (e 1))
noncomputable def N3 {α:Type} (k:o9→α) (e:Nat→α) (z:α) (p:J2) (s:o9):α:=let t1:=(bb0 (gL tP p.c8 p.is4.toNat) (gL tP p.c8 p.is5.toNat) (gL tP p.c8 s.is6.toNat));let t2:=(ob9 (rt tP p.c8) t1.1);let t3:=(Ea0 (slR tX s.eh0 0 s.ns3) t1.1);(sl (decide (s.is6 < (↑(List.length p.c8):Int))) (sl (inB p.is4 (List.length p.c8)) (sl (inB p.is5 (List.length p.c8)) (sl (inB s.is6 (List.length p.c8)) (sl (bb1 (gL tP p.c8 p.is4.toNat) (gL tP p.c8 p.is5.toNat) (gL tP p.c8 s.is6.toNat)) (sl t1.2 (sl (okE tP p.c8) (sl (pb0 (rt tP p.c8) t1.1) (sl t2 (sl (okS tX s.eh0 0 s.ns3) (sl (Ea1 (slR tX s.eh0 0 s.ns3) t1.1) (sl (!t3) (sl (Nat.beq s.ns3 (len s.eh0)&&Nat.ble ((s.ns3+1)*32) room) (k ⟨1,(W (s.is6+1)),(s.ns3+1),(app s.eh0 [[(i t1.1.px),(i t1.1.py),(i t1.1.pz),(i t1.1.pw)]])⟩) z) (k ⟨1,(W (s.is6+1)),s.ns3,s.eh0⟩)) z) z) (k ⟨1,(W (s.is6+1)),s.ns3,s.eh0⟩)) z) z) (k ⟨1,(W (s.is6+1)),s.ns3,s.eh0⟩)) z) z) z) z) (e 2))
noncomputable def L1 (p:J2) (s:o9):Stp o9:=(sel (Nat.beq s.ph 1) (N3 .next .exit .fail p s) (N2 .next .exit .fail p s))
noncomputable def Ta0:Lo J2 o9:=⟨En Ga4,0,Xd2,[1,1,0,1,4,4,1,0,4,1,4,4,1,0,4,1,4,4],[0,3,4,5,6],.p,[⟨((.s (.c 4 (nL tP)))::((.s (.o .unk))::((.s (.o .unk))::((.s (.o .nil))::((.s (.o (.int .i64)))::((.s (.o (.int .i64)))::((.s (.o (.int .i64)))::(ru2 57 [])))))))),[],fun a H=>(⟨(rL tP (slT a 0)),(toI (slT a 4)),(toI (slT a 5))⟩,⟨0,(toI (slT a 6)),0,[]⟩)⟩,⟨((.s (.c 4 (nL tP)))::((.s (.o .unk))::((.s (.o .unk))::((.s (.o (.sl 0 0 (some 0) none)))::((.s (.o (.int .i64)))::((.s (.o (.int .i64)))::((.s (.o (.int .i64)))::(ru2 57 [])))))))),[⟨54,4,true,none⟩],fun a H=>(⟨(rL tP (slT a 0)),(toI (slT a 4)),(toI (slT a 5))⟩,⟨1,(toI (slT a 6)),(slN (slT a 3)),(elT H 0)⟩)⟩],L1,[(some 4,fun p s=>⟨((eL tP p.c8)::(.unk::(.unk::((.v (.slice none 0 0))::((i p.is4)::((i p.is5)::((i s.is6)::(ra 18 ((i s.is6)::((eL tP p.c8)::((i (↑(List.length p.c8):Int))::((b (decide (s.is6 < (↑(List.length p.c8):Int))))::(ra 35 []))))))))))))),[]⟩),(some 4,fun p s=>⟨((eL tP p.c8)::(.unk::(.unk::((.sl 0 0 s.ns3 0)::((i p.is4)::((i p.is5)::((i s.is6)::(ra 18 ((i s.is6)::((eL tP p.c8)::((i (↑(List.length p.c8):Int))::((b (decide (s.is6 < (↑(List.length p.c8):Int))))::(ra 35 []))))))))))))),[⟨54,4,s.eh0,true,false,0⟩]⟩)],ec2⟩
theorem ec3:Ta0.Ok:=Lo.ok [] (by kernel_rfl) .nil rfl (.cons (fun a H=>by kernel_rfl) (.cons (fun a H=>by kernel_rfl) .nil)) fun p s=>(.sel (Nat.beq s.ph 1) (.of @N3 (fun F _ _ _ _ _=>by unfold N3;(repeat' apply l7 (f:=F))<;>rfl) (by kernel_rfl)) (.of @N2 (fun F _ _ _ _ _=>by unfold N2;(repeat' apply l7 (f:=F))<;>rfl) (by kernel_rfl)))
structure J3 where
 is4:Int
structure p9 where
 ph:Nat
 c8:List Pln
 is5:Int
 ns3:Nat
 eh0:List (List b7)
noncomputable def Wb9 (p:J3) (s:p9):St:=⟨((eL tP s.c8)::(.unk::(.unk::((.v (.slice none 0 0))::((i p.is4)::((i s.is5)::(ra 58 []))))))),[]⟩
noncomputable def Xb0 (p:J3) (s:p9):St:=⟨((eL tP s.c8)::(.unk::(.unk::((.sl 0 0 s.ns3 0)::((i p.is4)::((i s.is5)::(ra 58 []))))))),[⟨54,4,s.eh0,true,false,0⟩]⟩
noncomputable def ec4 (p:J3) (s:p9):St:=(sel (Nat.beq s.ph 1) (Xb0 p s) (Wb9 p s))
noncomputable def N4 {α:Type} (k:p9→α) (e:Nat→α) (z:α) (p:J3) (s:p9):α:=let t1:=(lp (L1 (⟨(rt tP s.c8),p.is4,s.is5⟩:J2)) (⟨0,(W (s.is5+1)),0,[]⟩:o9));(sl (decide (s.is5 < (↑(List.length s.c8):Int))) (sl ((cnE tP s.c8)&&true) (sl (Nat.beq t1.1 1) (k ⟨0,(rt tP s.c8),(W (s.is5+1)),0,[]⟩) (sl (Nat.beq t1.1 2) (k ⟨1,(rt tP s.c8),(W (s.is5+1)),t1.2.ns3,t1.2.eh0⟩) z)) z) (e 1))
noncomputable def N5 {α:Type} (k:p9→α) (e:Nat→α) (z:α) (p:J3) (s:p9):α:=let t1:=(lp (L1 (⟨(rt tP s.c8),p.is4,s.is5⟩:J2)) (⟨1,(W (s.is5+1)),s.ns3,s.eh0⟩:o9));(sl (decide (s.is5 < (↑(List.length s.c8):Int))) (sl ((cnE tP s.c8)&&true) (sl (Nat.beq t1.1 1) (k ⟨0,(rt tP s.c8),(W (s.is5+1)),0,[]⟩) (sl (Nat.beq t1.1 2) (k ⟨1,(rt tP s.c8),(W (s.is5+1)),t1.2.ns3,t1.2.eh0⟩) z)) z) (e 2))
noncomputable def G8 (p:J3) (s:p9):Stp p9:=(sel (Nat.beq s.ph 1) (N5 .next .exit .fail p s) (N4 .next .exit .fail p s))
noncomputable def Ta1:Lo J3 p9:=⟨En Ga4,0,Xd2,[1,1,0,1,4,4,1,0,4,1,4,4],[0,3,4,5],(.s .p (.s (.b (.s .p (.b (.u Ta0.ls)))) .p)),[⟨((.s (.c 4 (nL tP)))::((.s (.o .unk))::((.s (.o .unk))::((.s (.o .nil))::((.s (.o (.int .i64)))::((.s (.o (.int .i64)))::(ru2 58 []))))))),[],fun a H=>(⟨(toI (slT a 4))⟩,⟨0,(rL tP (slT a 0)),(toI (slT a 5)),0,[]⟩)⟩,⟨((.s (.c 4 (nL tP)))::((.s (.o .unk))::((.s (.o .unk))::((.s (.o (.sl 0 0 (some 0) none)))::((.s (.o (.int .i64)))::((.s (.o (.int .i64)))::(ru2 58 []))))))),[⟨54,4,true,none⟩],fun a H=>(⟨(toI (slT a 4))⟩,⟨1,(rL tP (slT a 0)),(toI (slT a 5)),(slN (slT a 3)),(elT H 0)⟩)⟩],G8,[(some 2,fun p s=>⟨((eL tP s.c8)::(.unk::(.unk::((.v (.slice none 0 0))::((i p.is4)::((i s.is5)::(ra 11 ((i s.is5)::((eL tP s.c8)::((i (↑(List.length s.c8):Int))::((b (decide (s.is5 < (↑(List.length s.c8):Int))))::(ra 43 [])))))))))))),[]⟩),(some 2,fun p s=>⟨((eL tP s.c8)::(.unk::(.unk::((.sl 0 0 s.ns3 0)::((i p.is4)::((i s.is5)::(ra 11 ((i s.is5)::((eL tP s.c8)::((i (↑(List.length s.c8):Int))::((b (decide (s.is5 < (↑(List.length s.c8):Int))))::(ra 43 [])))))))))))),[⟨54,4,s.eh0,true,false,0⟩]⟩)],ec4⟩
theorem ec5:Ta1.Ok:=Lo.ok [Ta0.pr] (by kernel_rfl) (.cons ec3 .nil) rfl (.cons (fun a H=>by kernel_rfl) (.cons (fun a H=>by kernel_rfl) .nil)) fun p s=>(.sel (Nat.beq s.ph 1) (.of @N5 (fun F _ _ _ _ _=>by unfold N5;(repeat' apply l7 (f:=F))<;>rfl) (by kernel_rfl)) (.of @N4 (fun F _ _ _ _ _=>by unfold N4;(repeat' apply l7 (f:=F))<;>rfl) (by kernel_rfl)))
structure O5 where
structure w7 where
 ph:Nat
 c8:List Pln
 is4:Int
 ns3:Nat
 eh0:List (List b7)
noncomputable def Xb1 (p:O5) (s:w7):St:=⟨((eL tP s.c8)::(.unk::(.unk::((.v (.slice none 0 0))::((i s.is4)::(ra 59 [])))))),[]⟩
noncomputable def Xb2 (p:O5) (s:w7):St:=⟨((eL tP s.c8)::(.unk::(.unk::((.sl 0 0 s.ns3 0)::((i s.is4)::(ra 59 [])))))),[⟨54,4,s.eh0,true,false,0⟩]⟩
noncomputable def ec6 (p:O5) (s:w7):St:=(sel (Nat.beq s.ph 1) (Xb2 p s) (Xb1 p s))
noncomputable def N6 {α:Type} (k:w7→α) (e:Nat→α) (z:α) (p:O5) (s:w7):α:=let t1:=(lp (G8 (⟨s.is4⟩:J3)) (⟨0,(rt tP s.c8),(W (s.is4+1)),0,[]⟩:p9));(sl (decide (s.is4 < (↑(List.length s.c8):Int))) (sl ((cnE tP s.c8)&&true) (sl (Nat.beq t1.1 1) (k ⟨0,t1.2.c8,(W (s.is4+1)),0,[]⟩) (sl (Nat.beq t1.1 2) (k ⟨1,t1.2.c8,(W (s.is4+1)),t1.2.ns3,t1.2.eh0⟩) z)) z) (e 1))
noncomputable def N7 {α:Type} (k:w7→α) (e:Nat→α) (z:α) (p:O5) (s:w7):α:=let t1:=(lp (G8 (⟨s.is4⟩:J3)) (⟨1,(rt tP s.c8),(W (s.is4+1)),s.ns3,s.eh0⟩:p9));(sl (decide (s.is4 < (↑(List.length s.c8):Int))) (sl ((cnE tP s.c8)&&true) (sl (Nat.beq t1.1 1) (k ⟨0,t1.2.c8,(W (s.is4+1)),0,[]⟩) (sl (Nat.beq t1.1 2) (k ⟨1,t1.2.c8,(W (s.is4+1)),t1.2.ns3,t1.2.eh0⟩) z)) z) (e 2))
noncomputable def L2 (p:O5) (s:w7):Stp w7:=(sel (Nat.beq s.ph 1) (N7 .next .exit .fail p s) (N6 .next .exit .fail p s))
noncomputable def Ta2:Lo O5 w7:=⟨En Ga4,0,Xd2,[1,1,0,1,4,4],[0,3,4],(.s .p (.s (.b (.s .p (.b (.u Ta1.ls)))) .p)),[⟨((.s (.c 4 (nL tP)))::((.s (.o .unk))::((.s (.o .unk))::((.s (.o .nil))::((.s (.o (.int .i64)))::(ru2 59 [])))))),[],fun a H=>(⟨⟩,⟨0,(rL tP (slT a 0)),(toI (slT a 4)),0,[]⟩)⟩,⟨((.s (.c 4 (nL tP)))::((.s (.o .unk))::((.s (.o .unk))::((.s (.o (.sl 0 0 (some 0) none)))::((.s (.o (.int .i64)))::(ru2 59 [])))))),[⟨54,4,true,none⟩],fun a H=>(⟨⟩,⟨1,(rL tP (slT a 0)),(toI (slT a 4)),(slN (slT a 3)),(elT H 0)⟩)⟩],L2,[(some 0,fun p s=>⟨((eL tP s.c8)::(.unk::(.unk::((.v (.slice none 0 0))::((i s.is4)::(ra 4 ((i s.is4)::((eL tP s.c8)::((i (↑(List.length s.c8):Int))::((b (decide (s.is4 < (↑(List.length s.c8):Int))))::(ra 51 []))))))))))),[]⟩),(some 0,fun p s=>⟨((eL tP s.c8)::(.unk::(.unk::((.sl 0 0 s.ns3 0)::((i s.is4)::(ra 4 ((i s.is4)::((eL tP s.c8)::((i (↑(List.length s.c8):Int))::((b (decide (s.is4 < (↑(List.length s.c8):Int))))::(ra 51 []))))))))))),[⟨54,4,s.eh0,true,false,0⟩]⟩)],ec6⟩
theorem ec7:Ta2.Ok:=Lo.ok [Ta1.pr] (by kernel_rfl) (.cons ec5 .nil) rfl (.cons (fun a H=>by kernel_rfl) (.cons (fun a H=>by kernel_rfl) .nil)) fun p s=>(.sel (Nat.beq s.ph 1) (.of @N7 (fun F _ _ _ _ _=>by unfold N7;(repeat' apply l7 (f:=F))<;>rfl) (by kernel_rfl)) (.of @N6 (fun F _ _ _ _ _=>by unfold N6;(repeat' apply l7 (f:=F))<;>rfl) (by kernel_rfl)))
noncomputable def za1 (x:List Pln):Option (b7×List b8):=let t1:=(lp (L2 (⟨⟩:O5)) (⟨0,(rt tP x),0,0,[]⟩:w7));(sl ((cnE tP x)&&true) (sl (Nat.beq t1.1 1) (some ((.v (.slice none 0 0)),[])) (sl (Nat.beq t1.1 2) (some ((.sl 0 0 t1.2.ns3 0),[⟨54,4,t1.2.eh0,true,false,0⟩])) none)) none)
noncomputable def za2 (x:List Pln):List Pt:=I5 (one (r1L tX)) (za1 x)
noncomputable def za3 (x:List Pln):Bool:=okO (one (r1L tX)) (za1 x)
noncomputable def kb7:Sum:=da3 (V2 tP) (fun x=>.guard (za3 x) (.ret ((one (r1L tX)).enc (za2 x),[])))
theorem Eb1:g7 prog G 90 kb7:=wa2 (bd b90 mc3) (one (r1L tX)) (o:=za1) fun x=>ya4 (.s .p (.s .p (.s (.s .p (.b (.u Ta2.ls))) .p))) [Ta2.pr] (by kernel_rfl) (.cons ec7 .nil) (by kernel_rfl)
noncomputable def ib6:List (Nat×Sum):=[]
theorem Qb4:j7 prog G ib6:=trivial
@[reducible] noncomputable def wa3:Sum:=j6 (En ib6) ee1
theorem Ga5:g7 prog G 166 wa3:=bd Ce6 Qb4
noncomputable def mc4:List (Nat×Sum):=[]
theorem ec8:j7 prog G mc4:=trivial
noncomputable def sa3 (x:Int):Option (b7×List b8):=(sl (decide (x < 0)) (some ((i (W (0 - x))),[])) (some ((i x),[])))
noncomputable def ja3 (x:Int):Int:=I5 (one r1I) (sa3 x)
noncomputable def ja4 (x:Int):Bool:=okO (one r1I) (sa3 x)
noncomputable def Eb2:Sum:=da3 cI (fun x=>.guard (ja4 x) (.ret ((one r1I).enc (ja3 x),[])))
theorem mc5:g7 prog G 215 Eb2:=wa2 (bd Ee8 ec8) (one r1I) (o:=sa3) fun x=>r4 (by kernel_rfl)
noncomputable def jc7:List (Nat×Sum):=[(215,Eb2),(166,wa3)]
theorem Uc7:j7 prog G jc7:=⟨mc5,Ga5,trivial⟩
structure ea6 where
 is6:Int
 i5:Int
 c7:Int
 i6:Int
 L9:Int
 M0:Int
 M1:Int
structure N8 where
 is5:Int
 is7:Int
noncomputable def Fc2 (p:ea6) (s:N8):St:=⟨(.unk::((.ptr 0 0 0 0)::((.ptr 1 0 0 0)::(.unk::((.ptr 2 0 0 0)::((i s.is5)::((i p.is6)::((i s.is7)::(ra 38 []))))))))),[⟨0,3,[[(i p.i5),(i p.c7),(i p.i6)]],true,false,0⟩,⟨0,3,[[(i 0),(i 0),(i 0)]],true,false,0⟩,⟨0,3,[[(i p.L9),(i p.M0),(i p.M1)]],true,false,0⟩]⟩
noncomputable def sa4 {α:Type} (k:N8→α) (e:Nat→α) (z:α) (p:ea6) (s:N8):α:=(sl (decide (s.is7 > 0)) (sl (s.is7==0) z (k ⟨s.is7,(Int.tmod s.is5 s.is7)⟩)) (e 1))
noncomputable def aa3 (p:ea6) (s:N8):Stp N8:=sa4 .next .exit .fail p s
noncomputable def tb4:Lo ea6 N8:=⟨En jc7,0,ee2,[1,1,1,0,1,4,4,1,0,4,1,1,4,4],[1,2,4,5,6,7],.p,[⟨((.s (.o .unk))::((.s (.o (.ptr 0 0 0 0)))::((.s (.o (.ptr 1 0 0 0)))::((.s (.o .unk))::((.s (.o (.ptr 2 0 0 0)))::((.s (.o (.int .i64)))::((.s (.o (.int .i64)))::((.s (.o (.int .i64)))::(ru2 38 []))))))))),[⟨0,3,true,(some [[(.o (.int .i64)),(.o (.int .i64)),(.o (.int .i64))]])⟩,⟨0,3,true,(some [[(.o (.lit .i64 0)),(.o (.lit .i64 0)),(.o (.lit .i64 0))]])⟩,⟨0,3,true,(some [[(.o (.int .i64)),(.o (.int .i64)),(.o (.int .i64))]])⟩],fun a H=>(⟨(toI (slT a 6)),(toI (slT (rwT (elT H 0) 0) 0)),(toI (slT (rwT (elT H 0) 0) 1)),(toI (slT (rwT (elT H 0) 0) 2)),(toI (slT (rwT (elT H 2) 0) 0)),(toI (slT (rwT (elT H 2) 0) 1)),(toI (slT (rwT (elT H 2) 0) 2))⟩,⟨(toI (slT a 5)),(toI (slT a 7))⟩)⟩],aa3,[(some 2,fun p s=>⟨(.unk::((.ptr 0 0 0 0)::((.ptr 1 0 0 0)::(.unk::((.ptr 2 0 0 0)::((i s.is5)::((i p.is6)::((i s.is7)::(ra 15 ((i s.is7)::((b (decide (s.is7 > 0)))::(ra 21 [])))))))))))),[⟨0,3,[[(i p.i5),(i p.c7),(i p.i6)]],true,false,0⟩,⟨0,3,[[(i 0),(i 0),(i 0)]],true,false,0⟩,⟨0,3,[[(i p.L9),(i p.M0),(i p.M1)]],true,false,0⟩]⟩)],Fc2⟩
theorem Fc3:tb4.Ok:=Lo.ok [] (by kernel_rfl) .nil rfl (.cons (fun a H=>by kernel_rfl) .nil) fun p s=>(.of @sa4 (fun F _ _ _ _ _=>by unfold sa4;(repeat' apply l7 (f:=F))<;>rfl) (by kernel_rfl))
noncomputable def bb3 (x:V3):Option (b7×List b8):=let t1:=(ja3 x.x);let t2:=(lp (aa3 (⟨0,x.x,x.y,x.z,x.x,x.y,x.z⟩:ea6)) (⟨0,t1⟩:N8));let t3:=(ja3 x.y);let t4:=(lp (aa3 (⟨1,x.x,x.y,x.z,x.x,x.y,x.z⟩:ea6)) (⟨t2.2.is5,t3⟩:N8));let t5:=(ja3 x.z);let t6:=(lp (aa3 (⟨2,x.x,x.y,x.z,x.x,x.y,x.z⟩:ea6)) (⟨t4.2.is5,t5⟩:N8));(sl (x.x==(-9223372036854775808)) (some ((.tup [(.agg [(i 0),(i 0),(i 0)]),(i 0)]),[])) (sl (ja4 x.x) (sl (Nat.beq t2.1 1) (sl (x.y==(-9223372036854775808)) (some ((.tup [(.agg [(i 0),(i 0),(i 0)]),(i 0)]),[])) (sl (ja4 x.y) (sl (Nat.beq t4.1 1) (sl (x.z==(-9223372036854775808)) (some ((.tup [(.agg [(i 0),(i 0),(i 0)]),(i 0)]),[])) (sl (ja4 x.z) (sl (Nat.beq t6.1 1) (sl (t6.2.is5==0) (some ((.tup [(.agg [(i 0),(i 0),(i 0)]),(i 0)]),[])) (sl (t6.2.is5==0) none (sl (t6.2.is5==0) none (sl (t6.2.is5==0) none (some ((.tup [(.agg [(i (W (Int.tdiv x.x t6.2.is5))),(i (W (Int.tdiv x.y t6.2.is5))),(i (W (Int.tdiv x.z t6.2.is5)))]),(i t6.2.is5)]),[])))))) none) none)) none) none)) none) none))
noncomputable def Da1 (x:V3):V3×Int:=I5 (two r1V r1I) (bb3 x)
noncomputable def bb4 (x:V3):Bool:=okO (two r1V r1I) (bb3 x)
noncomputable def Qb5:Sum:=da3 (R2 tV) (fun x=>.guard (bb4 x) (.ret ((two r1V r1I).enc (Da1 x),[])))
theorem jc8:g7 prog G 167 Qb5:=wa2 (bd Ce7 Uc7) (two r1V r1I) (o:=bb3) fun x=>ya4 (.s .p (.s .p (.s .p (.s (.s .p (.b (.l (.s .p (.s (.b (.s .p (.s .p (.b (.u tb4.ls))))) .p))))) .p)))) [tb4.pr] (by kernel_rfl) (.cons Fc3 .nil) (by kernel_rfl)
noncomputable def Uc8:List (Nat×Sum):=[(167,Qb5),(166,wa3)]
theorem Fc4:j7 prog G Uc8:=⟨jc8,Ga5,trivial⟩
noncomputable def Pa0 (x:Pln):Option (b7×List b8):=let t1:=(Da1 x.n);(sl (decide (x.n.x < (-4608))) (some ((b false),[])) (sl (decide (x.n.x > 4608)) (some ((b false),[])) (sl (decide (x.n.y < (-4608))) (some ((b false),[])) (sl (decide (x.n.y > 4608)) (some ((b false),[])) (sl (decide (x.n.z < (-4608))) (some ((b false),[])) (sl (decide (x.n.z > 4608)) (some ((b false),[])) (sl (bb4 x.n) (sl (t1.2==1) (sl (decide (x.b≥(-2097152))) (some ((b (decide (x.b≤2097152))),[])) (some ((b false),[]))) (some ((b false),[]))) none)))))))
noncomputable def Pa1 (x:Pln):Bool:=I5 (one r1B) (Pa0 x)
noncomputable def Pa2 (x:Pln):Bool:=okO (one r1B) (Pa0 x)
noncomputable def Eb3:Sum:=da3 (R2 tP) (fun x=>.guard (Pa2 x) (.ret ((one r1B).enc (Pa1 x),[])))
theorem Xb3:g7 prog G 86 Eb3:=wa2 (bd b86 Fc4) (one r1B) (o:=Pa0) fun x=>r4 (by kernel_rfl)
noncomputable def Xb4:List (Nat×Sum):=[(86,Eb3)]
theorem Fc5:j7 prog G Xb4:=⟨Xb3,trivial⟩
structure za4 where
 c8:List Pln
structure S6 where
 is3:Int
noncomputable def wc6 (p:za4) (s:S6):St:=⟨((eL tP p.c8)::(.unk::(.unk::((i s.is3)::(ra 15 []))))),[]⟩
noncomputable def na2 {α:Type} (k:S6→α) (e:Nat→α) (z:α) (p:za4) (s:S6):α:=let t1:=(Pa1 (gL tP p.c8 s.is3.toNat));(sl (decide (s.is3 < (↑(List.length p.c8):Int))) (sl (inB s.is3 (List.length p.c8)) (sl (Pa2 (gL tP p.c8 s.is3.toNat)) (sl (!t1) (e 1) (k ⟨(W (s.is3+1))⟩)) z) z) (e 2))
noncomputable def sa5 (p:za4) (s:S6):Stp S6:=na2 .next .exit .fail p s
noncomputable def kb8:Lo za4 S6:=⟨En Xb4,0,qe1,[1,1,0,1,4,4],[0,3],.p,[⟨((.s (.c 4 (nL tP)))::((.s (.o .unk))::((.s (.o .unk))::((.s (.o (.int .i64)))::(ru2 15 []))))),[],fun a H=>(⟨(rL tP (slT a 0))⟩,⟨(toI (slT a 3))⟩)⟩],sa5,[(none,fun p s=>⟨[(i 12)],[]⟩),(some 0,fun p s=>⟨((eL tP p.c8)::(.unk::(.unk::((i s.is3)::(ra 3 ((i s.is3)::((eL tP p.c8)::((i (↑(List.length p.c8):Int))::((b (decide (s.is3 < (↑(List.length p.c8):Int))))::(ra 8 [])))))))))),[]⟩)],wc6⟩
theorem wc7:kb8.Ok:=Lo.ok [] (by kernel_rfl) .nil rfl (.cons (fun a H=>by kernel_rfl) .nil) fun p s=>(.of @na2 (fun F _ _ _ _ _=>by unfold na2;(repeat' apply l7 (f:=F))<;>rfl) (by kernel_rfl))
noncomputable def Pa3 (x:List Pln):Option (b7×List b8):=let t1:=(lp (sa5 (⟨(rt tP x)⟩:za4)) (⟨0⟩:S6));(sl (decide ((↑(List.length x):Int) > 48)) (some ((i 2),[])) (sl ((cnE tP x)&&true) (sl (Nat.beq t1.1 1) (some ((i 12),[])) (sl (Nat.beq t1.1 2) (some ((i 0),[])) none)) none))
noncomputable def Ea2 (x:List Pln):Int:=I5 (one r1I) (Pa3 x)
noncomputable def Ea3 (x:List Pln):Bool:=okO (one r1I) (Pa3 x)
noncomputable def ib7:Sum:=da3 (V2 tP) (fun x=>.guard (Ea3 x) (.ret ((one r1I).enc (Ea2 x),[])))
theorem tb5:g7 prog G 16 ib7:=wa2 (bd b16 Fc5) (one r1I) (o:=Pa3) fun x=>ya4 (.s .p (.s .p (.s (.s .p (.b (.u kb8.ls))) .p))) [kb8.pr] (by kernel_rfl) (.cons wc7 .nil) (by kernel_rfl)
noncomputable def td4:List (Nat×Sum):=[]
theorem id4:j7 prog G td4:=trivial
noncomputable def Jb5 (x:V3) (y:V3):Option (b7×List b8):=(some ((.sl 0 0 6 0),[⟨50,4,[[(i 1),(i 0),(i 0),(i y.x)],[(i (-1)),(i 0),(i 0),(i (W (0 - x.x)))],[(i 0),(i 1),(i 0),(i y.y)],[(i 0),(i (-1)),(i 0),(i (W (0 - x.y)))],[(i 0),(i 0),(i 1),(i y.z)],[(i 0),(i 0),(i (-1)),(i (W (0 - x.z)))]],true,false,0⟩]))
noncomputable def pb1 (x:V3) (y:V3):List Pln:=I5 (one (r1L tP)) (Jb5 x y)
noncomputable def Ya7 (x:V3) (y:V3):Bool:=okO (one (r1L tP)) (Jb5 x y)
noncomputable def ec9:Sum:=ja0 (R2 tV) (R2 tV) (fun x y=>.guard (Ya7 x y) (.ret ((one (r1L tP)).enc (pb1 x y),[])))
theorem wc8:g7 prog G 111 ec9:=eb7 (bd ue0 id4) (one (r1L tP)) (o:=Jb5) fun x y=>r4 (by kernel_rfl)
noncomputable def td5:List (Nat×Sum):=[(111,ec9)]
theorem id5:j7 prog G td5:=⟨wc8,trivial⟩
noncomputable def pb2 (x:List Pln):Option (b7×List b8):=let t1:=(pb1 (⟨(-24),(-24),(-24)⟩:V3) (⟨24,24,24⟩:V3));(sl (Nat.beq (len (l8 (fun k=>(tP).row (gL tP x k)) (List.range (List.length x)))) 0) (sl (Ya7 (⟨(-24),(-24),(-24)⟩:V3) (⟨24,24,24⟩:V3)) (sl (Nat.beq (len (l8 (fun k=>(tP).row (gL tP t1 k)) (List.range (List.length t1)))) 0) (some ((.sl 0 0 0 0),[⟨50,4,[],true,false,0⟩])) (sl (Nat.beq 0 0&&Nat.ble ((0+(len (l8 (fun k=>(tP).row (gL tP t1 k)) (List.range (List.length t1)))))*32) room) (some ((.sl 0 0 (0+(len (l8 (fun k=>(tP).row (gL tP t1 k)) (List.range (List.length t1))))) 0),[⟨50,4,(app [] (l8 (fun k=>(tP).row (gL tP t1 k)) (List.range (List.length t1)))),true,false,0⟩])) none)) none) (sl (Nat.beq 0 0&&Nat.ble ((0+(len (l8 (fun k=>(tP).row (gL tP x k)) (List.range (List.length x)))))*32) room) (sl (Ya7 (⟨(-24),(-24),(-24)⟩:V3) (⟨24,24,24⟩:V3)) (sl (Nat.beq (len (l8 (fun k=>(tP).row (gL tP t1 k)) (List.range (List.length t1)))) 0) (some ((.sl 0 0 (0+(len (l8 (fun k=>(tP).row (gL tP x k)) (List.range (List.length x))))) 0),[⟨50,4,(app [] (l8 (fun k=>(tP).row (gL tP x k)) (List.range (List.length x)))),true,false,0⟩])) (sl (Nat.beq (0+(len (l8 (fun k=>(tP).row (gL tP x k)) (List.range (List.length x))))) (len (app [] (l8 (fun k=>(tP).row (gL tP x k)) (List.range (List.length x)))))&&Nat.ble (((0+(len (l8 (fun k=>(tP).row (gL tP x k)) (List.range (List.length x)))))+(len (l8 (fun k=>(tP).row (gL tP t1 k)) (List.range (List.length t1)))))*32) room) (some ((.sl 0 0 ((0+(len (l8 (fun k=>(tP).row (gL tP x k)) (List.range (List.length x)))))+(len (l8 (fun k=>(tP).row (gL tP t1 k)) (List.range (List.length t1))))) 0),[⟨50,4,(app (app [] (l8 (fun k=>(tP).row (gL tP x k)) (List.range (List.length x)))) (l8 (fun k=>(tP).row (gL tP t1 k)) (List.range (List.length t1)))),true,false,0⟩])) none)) none) none))
noncomputable def pb3 (x:List Pln):List Pln:=I5 (one (r1L tP)) (pb2 x)
noncomputable def pb4 (x:List Pln):Bool:=okO (one (r1L tP)) (pb2 x)
noncomputable def fc0:Sum:=da3 (V2 tP) (fun x=>.guard (pb4 x) (.ret ((one (r1L tP)).enc (pb3 x),[])))
theorem wc9:g7 prog G 91 fc0:=wa2 (bd b91 id5) (one (r1L tP)) (o:=pb2) fun x=>r4 (by kernel_rfl)
noncomputable def Fc6:List (Nat×Sum):=[(16,ib7),(91,fc0),(90,kb7)]
theorem xc0:j7 prog G Fc6:=⟨tb5,wc9,Eb1,trivial⟩
noncomputable def Ga6 (x:List Pln):Option (b7×List b8):=let t1:=(Ea2 (rt tP x));let t2:=(pb3 (rt tP x));let t3:=(za2 (rt tP t2));(sl (okE tP x) (sl (Ea3 (rt tP x)) (sl (t1 != 0) (some ((.v (.slice none 0 0)),[])) (sl (okE tP x) (sl (pb4 (rt tP x)) (sl (okE tP t2) (sl (za3 (rt tP t2)) (some ((eL tX t3),[])) none) none) none) none)) none) none)
noncomputable def Ga7 (x:List Pln):List Pt:=I5 (one (r1L tX)) (Ga6 x)
noncomputable def Ga8 (x:List Pln):Bool:=okO (one (r1L tX)) (Ga6 x)
noncomputable def tb6:Sum:=da3 (V2 tP) (fun x=>.guard (Ga8 x) (.ret ((one (r1L tX)).enc (Ga7 x),[])))
theorem Mb7:g7 prog G 19 tb6:=wa2 (bd b19 xc0) (one (r1L tX)) (o:=Ga6) fun x=>r4 (by kernel_rfl)
noncomputable def Eb4:List (Nat×Sum):=[(90,kb7),(37,Qb1)]
theorem Uc9:j7 prog G Eb4:=⟨Eb1,jc5,trivial⟩
structure Ga9 where
 c8:List Pln
 jb5:List Pt
 is4:Int
structure ea7 where
 bs5:Bool
 is6:Int
noncomputable def Fc7 (p:Ga9) (s:ea7):St:=⟨((eL tP p.c8)::(.unk::(.unk::((eL tX p.jb5)::((i p.is4)::((b s.bs5)::((i s.is6)::(ra 29 [])))))))),[]⟩
noncomputable def sa6 {α:Type} (k:ea7→α) (e:Nat→α) (z:α) (p:Ga9) (s:ea7):α:=let t1:=(ab7 (gL tP p.c8 p.is4.toNat) (gL tX p.jb5 s.is6.toNat));(sl (decide (s.is6 < (↑(List.length p.jb5):Int))) (sl s.bs5 (k ⟨true,(W (s.is6+1))⟩) (sl (inB p.is4 (List.length p.c8)) (sl (inB s.is6 (List.length p.jb5)) (k ⟨(decide (t1 > 0)),(W (s.is6+1))⟩) z) z)) (e 1))
noncomputable def pa3 (p:Ga9) (s:ea7):Stp ea7:=sa6 .next .exit .fail p s
noncomputable def tb7:Lo Ga9 ea7:=⟨En Eb4,0,ke0,[1,1,0,1,4,4,1,0,4,1,0,1,4,4],[0,3,4,5,6],.p,[⟨((.s (.c 4 (nL tP)))::((.s (.o .unk))::((.s (.o .unk))::((.s (.c 4 (nL tX)))::((.s (.o (.int .i64)))::((.s (.o .bool))::((.s (.o (.int .i64)))::(ru2 29 [])))))))),[],fun a H=>(⟨(rL tP (slT a 0)),(rL tX (slT a 3)),(toI (slT a 4))⟩,⟨(toB (slT a 5)),(toI (slT a 6))⟩)⟩],pa3,[(some 2,fun p s=>⟨((eL tP p.c8)::(.unk::(.unk::((eL tX p.jb5)::((i p.is4)::((b s.bs5)::((i s.is6)::(ra 8 ((i s.is6)::((eL tX p.jb5)::((i (↑(List.length p.jb5):Int))::((b (decide (s.is6 < (↑(List.length p.jb5):Int))))::(ra 17 []))))))))))))),[]⟩)],Fc7⟩
theorem Fc8:tb7.Ok:=Lo.ok [] (by kernel_rfl) .nil rfl (.cons (fun a H=>by kernel_rfl) .nil) fun p s=>(.of @sa6 (fun F _ _ _ _ _=>by unfold sa6;(repeat' apply l7 (f:=F))<;>rfl) (by kernel_rfl))
structure Ha0 where
structure Y3 where
 c8:List Pln
 jb5:List Pt
 is4:Int
noncomputable def Fc9 (p:Ha0) (s:Y3):St:=⟨((eL tP s.c8)::(.unk::(.unk::((eL tX s.jb5)::((i s.is4)::(ra 31 [])))))),[]⟩
noncomputable def sa7 {α:Type} (k:Y3→α) (e:Nat→α) (z:α) (p:Ha0) (s:Y3):α:=let t1:=(lp (pa3 (⟨(rt tP s.c8),(rt tX s.jb5),s.is4⟩:Ga9)) (⟨false,0⟩:ea7));(sl (decide (s.is4 < (↑(List.length s.c8):Int))) (sl ((cnE tP s.c8)&&((cnE tX s.jb5)&&true)) (sl (Nat.beq t1.1 1) (sl (!t1.2.bs5) (e 1) (k ⟨(rt tP s.c8),(rt tX s.jb5),(W (s.is4+1))⟩)) z) z) (e 2))
noncomputable def za5 (p:Ha0) (s:Y3):Stp Y3:=sa7 .next .exit .fail p s
noncomputable def tb8:Lo Ha0 Y3:=⟨En Eb4,0,ke0,[1,1,0,1,4,4],[0,3,4],(.s .p (.s (.b (.s .p (.s (.s .p (.b (.u tb7.ls))) .p))) .p)),[⟨((.s (.c 4 (nL tP)))::((.s (.o .unk))::((.s (.o .unk))::((.s (.c 4 (nL tX)))::((.s (.o (.int .i64)))::(ru2 31 [])))))),[],fun a H=>(⟨⟩,⟨(rL tP (slT a 0)),(rL tX (slT a 3)),(toI (slT a 4))⟩)⟩],za5,[(none,fun p s=>⟨[(b false)],[]⟩),(some 0,fun p s=>⟨((eL tP s.c8)::(.unk::(.unk::((eL tX s.jb5)::((i s.is4)::(ra 4 ((i s.is4)::((eL tP s.c8)::((i (↑(List.length s.c8):Int))::((b (decide (s.is4 < (↑(List.length s.c8):Int))))::(ra 23 []))))))))))),[]⟩)],Fc9⟩
theorem Gc0:tb8.Ok:=Lo.ok [tb7.pr] (by kernel_rfl) (.cons Fc8 .nil) rfl (.cons (fun a H=>by kernel_rfl) .nil) fun p s=>(.of @sa7 (fun F _ _ _ _ _=>by unfold sa7;(repeat' apply l7 (f:=F))<;>rfl) (by kernel_rfl))
noncomputable def bb5 (x:List Pln):Option (b7×List b8):=let t1:=(za2 (rt tP x));let t2:=(lp (za5 (⟨⟩:Ha0)) (⟨(rt tP x),(rt tX t1),0⟩:Y3));(sl (okE tP x) (sl (za3 (rt tP x)) (sl ((cnE tP x)&&((cnE tX t1)&&true)) (sl (Nat.beq t2.1 1) (some ((b false),[])) (sl (Nat.beq t2.1 2) (some ((b true),[])) none)) none) none) none)
noncomputable def tb9 (x:List Pln):Bool:=I5 (one r1B) (bb5 x)
noncomputable def ub0 (x:List Pln):Bool:=okO (one r1B) (bb5 x)
noncomputable def xc1:Sum:=da3 (V2 tP) (fun x=>.guard (ub0 x) (.ret ((one r1B).enc (tb9 x),[])))
theorem id6:g7 prog G 93 xc1:=wa2 (bd b93 Uc9) (one r1B) (o:=bb5) fun x=>ya4 (.s .p (.s .p (.s (.s .p (.b (.u tb8.ls))) .p))) [tb8.pr] (by kernel_rfl) (.cons Gc0 .nil) (by kernel_rfl)
noncomputable def id7:List (Nat×Sum):=[(16,ib7),(91,fc0),(93,xc1)]
theorem Vc0:j7 prog G id7:=⟨tb5,wc9,id6,trivial⟩
noncomputable def bb6 (x:List Pln):Option (b7×List b8):=let t1:=(Ea2 (rt tP x));let t2:=(pb3 (rt tP x));let t3:=(tb9 (rt tP t2));(sl (okE tP x) (sl (Ea3 (rt tP x)) (sl (t1==0) (sl (okE tP x) (sl (pb4 (rt tP x)) (sl (okE tP t2) (sl (ub0 (rt tP t2)) (some ((b t3),[])) none) none) none) none) (some ((b false),[]))) none) none)
noncomputable def Da2 (x:List Pln):Bool:=I5 (one r1B) (bb6 x)
noncomputable def sa8 (x:List Pln):Bool:=okO (one r1B) (bb6 x)
noncomputable def ub1:Sum:=da3 (V2 tP) (fun x=>.guard (sa8 x) (.ret ((one r1B).enc (Da2 x),[])))
theorem Eb5:g7 prog G 21 ub1:=wa2 (bd b21 Vc0) (one r1B) (o:=bb6) fun x=>r4 (by kernel_rfl)
noncomputable def td6:List (Nat×Sum):=[]
theorem id8:j7 prog G td6:=trivial
noncomputable def pb5 (x:Int) (y:Int):Option (b7×List b8):=(sl (decide (y < 1)) (some ((i 0),[])) (sl (y==0) none (sl (y==0) none (some ((i (Int.tmod (W ((Int.tmod x y)+y)) y)),[])))))
noncomputable def ja5 (x:Int) (y:Int):Int:=I5 (one r1I) (pb5 x y)
noncomputable def ea1 (x:Int) (y:Int):Bool:=okO (one r1I) (pb5 x y)
noncomputable def Ya8:Sum:=ja0 cI cI (fun x y=>.guard (ea1 x y) (.ret ((one r1I).enc (ja5 x y),[])))
theorem bb7:g7 prog G 47 Ya8:=eb7 (bd b47 id8) (one r1I) (o:=pb5) fun x y=>r4 (by kernel_rfl)
noncomputable def Vc1:List (Nat×Sum):=[(47,Ya8)]
theorem Gc1:j7 prog G Vc1:=⟨bb7,trivial⟩
noncomputable def Pa4 (x:Int) (y:Int):Option (b7×List b8):=let t1:=(ja5 x y);(sl (ea1 x y) (sl (y==0) none (some ((i (W (Int.tdiv (W (x - t1)) y))),[]))) none)
noncomputable def ea8 (x:Int) (y:Int):Int:=I5 (one r1I) (Pa4 x y)
noncomputable def ea9 (x:Int) (y:Int):Bool:=okO (one r1I) (Pa4 x y)
noncomputable def jc9:Sum:=ja0 cI cI (fun x y=>.guard (ea9 x y) (.ret ((one r1I).enc (ea8 x y),[])))
theorem Vc2:g7 prog G 96 jc9:=eb7 (bd b96 Gc1) (one r1I) (o:=Pa4) fun x y=>r4 (by kernel_rfl)
noncomputable def Xb5:List (Nat×Sum):=[(21,ub1),(19,tb6),(96,jc9)]
theorem Gc2:j7 prog G Xb5:=⟨Eb5,Mb7,Vc2,trivial⟩
structure za6 where
 K5:List Pt
structure aa4 where
 is8:Int
 L9:Int
 M0:Int
 M1:Int
 Ka5:Int
 Ka6:Int
 Ka7:Int
noncomputable def xc2 (p:za6) (s:aa4):St:=⟨(.unk::(.unk::((.ptr 0 0 0 0)::((.ptr 1 0 0 0)::(.unk::((eL tX p.K5)::((.ptr 2 0 0 0)::((.ptr 3 0 0 0)::((i s.is8)::(ra 109 [])))))))))),[⟨0,3,[[(i 0),(i 0),(i 0)]],true,false,0⟩,⟨0,3,[[(i 0),(i 0),(i 0)]],true,false,0⟩,⟨0,3,[[(i s.L9),(i s.M0),(i s.M1)]],true,false,0⟩,⟨0,3,[[(i s.Ka5),(i s.Ka6),(i s.Ka7)]],true,false,0⟩]⟩
noncomputable def na3 {α:Type} (k:aa4→α) (e:Nat→α) (z:α) (p:za6) (s:aa4):α:=let t1:=(ea8 (gL tX p.K5 s.is8.toNat).px (gL tX p.K5 s.is8.toNat).pw);let t2:=(ea8 (gL tX p.K5 s.is8.toNat).py (gL tX p.K5 s.is8.toNat).pw);let t3:=(ea8 (gL tX p.K5 s.is8.toNat).pz (gL tX p.K5 s.is8.toNat).pw);let t4:=(ea8 (W (0 - (gL tX p.K5 s.is8.toNat).px)) (gL tX p.K5 s.is8.toNat).pw);let t5:=(ea8 (W (0 - (gL tX p.K5 s.is8.toNat).py)) (gL tX p.K5 s.is8.toNat).pw);let t6:=(ea8 (W (0 - (gL tX p.K5 s.is8.toNat).pz)) (gL tX p.K5 s.is8.toNat).pw);(sl (decide (s.is8 < (↑(List.length p.K5):Int))) (sl (inB s.is8 (List.length p.K5)) (sl (inB s.is8 (List.length p.K5)) (sl (ea9 (gL tX p.K5 s.is8.toNat).px (gL tX p.K5 s.is8.toNat).pw) (sl (inB s.is8 (List.length p.K5)) (sl (inB s.is8 (List.length p.K5)) (sl (ea9 (gL tX p.K5 s.is8.toNat).py (gL tX p.K5 s.is8.toNat).pw) (sl (inB s.is8 (List.length p.K5)) (sl (inB s.is8 (List.length p.K5)) (sl (ea9 (gL tX p.K5 s.is8.toNat).pz (gL tX p.K5 s.is8.toNat).pw) (sl (inB s.is8 (List.length p.K5)) (sl (inB s.is8 (List.length p.K5)) (sl (ea9 (W (0 - (gL tX p.K5 s.is8.toNat).px)) (gL tX p.K5 s.is8.toNat).pw) (sl (inB s.is8 (List.length p.K5)) (sl (inB s.is8 (List.length p.K5)) (sl (ea9 (W (0 - (gL tX p.K5 s.is8.toNat).py)) (gL tX p.K5 s.is8.toNat).pw) (sl (inB s.is8 (List.length p.K5)) (sl (inB s.is8 (List.length p.K5)) (sl (ea9 (W (0 - (gL tX p.K5 s.is8.toNat).pz)) (gL tX p.K5 s.is8.toNat).pw) (k ⟨(W (s.is8+1)),(if t1 < s.L9 then t1 else s.L9),(if t2 < s.M0 then t2 else s.M0),(if t3 < s.M1 then t3 else s.M1),(if (W (0 - t4)) > s.Ka5 then (W (0 - t4)) else s.Ka5),(if (W (0 - t5)) > s.Ka6 then (W (0 - t5)) else s.Ka6),(if (W (0 - t6)) > s.Ka7 then (W (0 - t6)) else s.Ka7)⟩) z) z) z) z) z) z) z) z) z) z) z) z) z) z) z) z) z) z) (e 1))
noncomputable def ja6 (p:za6) (s:aa4):Stp aa4:=na3 .next .exit .fail p s
noncomputable def kb9:Lo za6 aa4:=⟨En Xb5,0,qe4,[1,1,1,1,1,0,1,4,4],[2,3,5,6,7,8],.p,[⟨((.s (.o .unk))::((.s (.o .unk))::((.s (.o (.ptr 0 0 0 0)))::((.s (.o (.ptr 1 0 0 0)))::((.s (.o .unk))::((.s (.c 4 (nL tX)))::((.s (.o (.ptr 2 0 0 0)))::((.s (.o (.ptr 3 0 0 0)))::((.s (.o (.int .i64)))::(ru2 109 [])))))))))),[⟨0,3,true,(some [[(.o (.lit .i64 0)),(.o (.lit .i64 0)),(.o (.lit .i64 0))]])⟩,⟨0,3,true,(some [[(.o (.lit .i64 0)),(.o (.lit .i64 0)),(.o (.lit .i64 0))]])⟩,⟨0,3,true,(some [[(.o (.int .i64)),(.o (.int .i64)),(.o (.int .i64))]])⟩,⟨0,3,true,(some [[(.o (.int .i64)),(.o (.int .i64)),(.o (.int .i64))]])⟩],fun a H=>(⟨(rL tX (slT a 5))⟩,⟨(toI (slT a 8)),(toI (slT (rwT (elT H 2) 0) 0)),(toI (slT (rwT (elT H 2) 0) 1)),(toI (slT (rwT (elT H 2) 0) 2)),(toI (slT (rwT (elT H 3) 0) 0)),(toI (slT (rwT (elT H 3) 0) 1)),(toI (slT (rwT (elT H 3) 0) 2))⟩)⟩],ja6,[(some 0,fun p s=>⟨(.unk::(.unk::((.ptr 0 0 0 0)::((.ptr 1 0 0 0)::(.unk::((eL tX p.K5)::((.ptr 2 0 0 0)::((.ptr 3 0 0 0)::((i s.is8)::(ra 9 ((i s.is8)::((eL tX p.K5)::((i (↑(List.length p.K5):Int))::((b (decide (s.is8 < (↑(List.length p.K5):Int))))::(ra 96 []))))))))))))))),[⟨0,3,[[(i 0),(i 0),(i 0)]],true,false,0⟩,⟨0,3,[[(i 0),(i 0),(i 0)]],true,false,0⟩,⟨0,3,[[(i s.L9),(i s.M0),(i s.M1)]],true,false,0⟩,⟨0,3,[[(i s.Ka5),(i s.Ka6),(i s.Ka7)]],true,false,0⟩]⟩)],xc2⟩
theorem xc3:kb9.Ok:=Lo.ok [] (by kernel_rfl) .nil rfl (.cons (fun a H=>by kernel_rfl) .nil) fun p s=>(.of @na3 (fun F _ _ _ _ _=>by unfold na3;(repeat' apply l7 (f:=F))<;>rfl) (by kernel_rfl))
noncomputable def Pa5 (x:List Pln):Option (b7×List b8):=let t1:=(Da2 (rt tP x));let t2:=(Ga7 (rt tP x));let t3:=(lp (ja6 (⟨(rt tX t2)⟩:za6)) (⟨0,24,24,24,(-24),(-24),(-24)⟩:aa4));(sl (okE tP x) (sl (sa8 (rt tP x)) (sl (!t1) (some ((.tup [(.agg [(i 0),(i 0),(i 0)]),(.agg [(i 0),(i 0),(i 0)]),(b false)]),[])) (sl (okE tP x) (sl (Ga8 (rt tP x)) (sl ((cnE tX t2)&&true) (sl (Nat.beq t3.1 1) (some ((.tup [(.agg [(i t3.2.L9),(i t3.2.M0),(i t3.2.M1)]),(.agg [(i t3.2.Ka5),(i t3.2.Ka6),(i t3.2.Ka7)]),(b true)]),[])) none) none) none) none)) none) none)
noncomputable def ib8 (x:List Pln):V3×V3×Bool:=I5 (Vb3 r1V r1V r1B) (Pa5 x)
noncomputable def ib9 (x:List Pln):Bool:=okO (Vb3 r1V r1V r1B) (Pa5 x)
noncomputable def kc0:Sum:=da3 (V2 tP) (fun x=>.guard (ib9 x) (.ret ((Vb3 r1V r1V r1B).enc (ib8 x),[])))
theorem Vc3:g7 prog G 23 kc0:=wa2 (bd b23 Gc2) (Vb3 r1V r1V r1B) (o:=Pa5) fun x=>ya4 (.s .p (.s .p (.s .p (.s .p (.s .p (.s (.s .p (.b (.u kb9.ls))) .p)))))) [kb9.pr] (by kernel_rfl) (.cons xc3 .nil) (by kernel_rfl)
end Go.Ev.Ce
end
section
namespace Go.Ev.Ce
open Go Go.Ev Go.Ev.L Go.Proofs
set_option maxRecDepth 100000
noncomputable def Vc4:List (Nat×Sum):=[]
theorem Gc3:j7 prog G Vc4:=trivial
noncomputable def Ea4 (x:V3) (y:V3):Int:=(W ((W ((W (x.x*y.x))+(W (x.y*y.y))))+(W (x.z*y.z))))
noncomputable def Eb6:Sum:=ja0 (R2 tV) (R2 tV) (fun x y=>.ret ((one r1I).enc (Ea4 x y),[]))
theorem Xb6:g7 prog G 129 Eb6:=wa1 (bd Ce0 Gc3) fun x y=>r4 (by kernel_rfl)
noncomputable def Vc5:List (Nat×Sum):=[]
theorem Gc4:j7 prog G Vc5:=trivial
noncomputable def la8 (x:V3) (y:V3):V3:=(⟨(W (x.x+y.x)),(W (x.y+y.y)),(W (x.z+y.z))⟩:V3)
noncomputable def kc1:Sum:=ja0 (R2 tV) (R2 tV) (fun x y=>.ret ((one r1V).enc (la8 x y),[]))
theorem Vc6:g7 prog G 54 kc1:=wa1 (bd b54 Gc4) fun x y=>r4 (by kernel_rfl)
noncomputable def Gc5:List (Nat×Sum):=[]
theorem xc4:j7 prog G Gc5:=trivial
noncomputable def N9 (x:V3) (y:Int):V3:=(⟨(W (x.x*y)),(W (x.y*y)),(W (x.z*y))⟩:V3)
noncomputable def ub2:Sum:=ja0 (R2 tV) cI (fun x y=>.ret ((one r1V).enc (N9 x y),[]))
theorem Mb8:g7 prog G 94 ub2:=wa1 (bd b94 xc4) fun x y=>r4 (by kernel_rfl)
noncomputable def xc5:List (Nat×Sum):=[]
theorem mc6:j7 prog G xc5:=trivial
noncomputable def M8 (x:V3) (y:V3):V3:=(⟨(W ((W (x.y*y.z)) - (W (x.z*y.y)))),(W ((W (x.z*y.x)) - (W (x.x*y.z)))),(W ((W (x.x*y.y)) - (W (x.y*y.x))))⟩:V3)
noncomputable def Mb9:Sum:=ja0 (R2 tV) (R2 tV) (fun x y=>.ret ((one r1V).enc (M8 x y),[]))
theorem xc6:g7 prog G 142 Mb9:=wa1 (bd Ce2 mc6) fun x y=>r4 (by kernel_rfl)
noncomputable def Vc7:List (Nat×Sum):=[(129,Eb6)]
theorem Gc6:j7 prog G Vc7:=⟨Xb6,trivial⟩
noncomputable def la9 (x:Pln) (y:Pt):Int:=let t1:=(Ea4 x.n (⟨y.px,y.py,y.pz⟩:V3));(W ((W (x.b*y.pw)) - t1))
noncomputable def jb0:Sum:=ja0 (R2 tP) (R2 tX) (fun x y=>.ret ((one r1I).enc (la9 x y),[]))
theorem ub3:g7 prog G 102 jb0:=wa1 (bd Ae6 Gc6) fun x y=>r4 (by kernel_rfl)
noncomputable def Eb7:List (Nat×Sum):=[]
theorem Vc8:j7 prog G Eb7:=trivial
structure wa4 where
 ya0:List Int
 is7:Int
 is8:Int
structure fa0 where
 is3:Int
 is5:Int
noncomputable def Gc7 (p:wa4) (s:fa0):St:=⟨(ra 3 ((i s.is3)::(.unk::((i s.is5)::((eL tI p.ya0)::((i p.is7)::((i p.is8)::(ra 14 [])))))))),[]⟩
noncomputable def sa9 {α:Type} (k:fa0→α) (e:Nat→α) (z:α) (p:wa4) (s:fa0):α:=(sl (s.is5 != 0) (sl (s.is5==0) z (k ⟨s.is5,(Int.tmod s.is3 s.is5)⟩)) (e 1))
noncomputable def za7 (p:wa4) (s:fa0):Stp fa0:=sa9 .next .exit .fail p s
noncomputable def ub4:Lo wa4 fa0:=⟨En Eb7,0,Nd4,[1,1,0,1,4,4,1,1,0,4,1,4,4],[3,5,6,7,8],.p,[⟨(ru2 3 ((.s (.o (.int .i64)))::((.s (.o .unk))::((.s (.o (.int .i64)))::((.s (.c 1 (nL tI)))::((.s (.o (.int .i64)))::((.s (.o (.int .i64)))::(ru2 14 [])))))))),[],fun a H=>(⟨(rL tI (slT a 6)),(toI (slT a 7)),(toI (slT a 8))⟩,⟨(toI (slT a 3)),(toI (slT a 5))⟩)⟩],za7,[(some 2,fun p s=>⟨(ra 3 ((i s.is3)::(.unk::((i s.is5)::((eL tI p.ya0)::((i p.is7)::((i p.is8)::(ra 3 ((i s.is5)::((b (s.is5 != 0))::(ra 9 []))))))))))),[]⟩)],Gc7⟩
theorem Gc8:ub4.Ok:=Lo.ok [] (by kernel_rfl) .nil rfl (.cons (fun a H=>by kernel_rfl) .nil) fun p s=>(.of @sa9 (fun F _ _ _ _ _=>by unfold sa9;(repeat' apply l7 (f:=F))<;>rfl) (by kernel_rfl))
structure Ha1 where
 is7:Int
structure fa1 where
 is3:Int
 ya0:List Int
 is8:Int
noncomputable def Gc9 (p:Ha1) (s:fa1):St:=⟨(ra 3 ((i s.is3)::(.unk::(.unk::((eL tI s.ya0)::((i p.is7)::((i s.is8)::(ra 14 [])))))))),[]⟩
noncomputable def ta0 {α:Type} (k:fa1→α) (e:Nat→α) (z:α) (p:Ha1) (s:fa1):α:=let t1:=(lp (za7 (⟨(rt tI s.ya0),p.is7,s.is8⟩:wa4)) (⟨s.is3,(gL tI s.ya0 s.is8.toNat)⟩:fa0));(sl (decide (s.is8 < p.is7)) (sl (inB s.is8 (List.length s.ya0)) (sl ((cnE tI s.ya0)&&true) (sl (Nat.beq t1.1 1) (k ⟨t1.2.is3,(rt tI s.ya0),(W (s.is8+1))⟩) z) z) z) (e 1))
noncomputable def pa4 (p:Ha1) (s:fa1):Stp fa1:=ta0 .next .exit .fail p s
noncomputable def ub5:Lo Ha1 fa1:=⟨En Eb7,0,Nd4,[1,1,0,1,4,4],[3,6,7,8],(.s .p (.s .p (.s (.b (.s .p (.b (.u ub4.ls)))) .p))),[⟨(ru2 3 ((.s (.o (.int .i64)))::((.s (.o .unk))::((.s (.o .unk))::((.s (.c 1 (nL tI)))::((.s (.o (.int .i64)))::((.s (.o (.int .i64)))::(ru2 14 [])))))))),[],fun a H=>(⟨(toI (slT a 7))⟩,⟨(toI (slT a 3)),(rL tI (slT a 6)),(toI (slT a 8))⟩)⟩],pa4,[(some 0,fun p s=>⟨(ra 3 ((i s.is3)::(.unk::(.unk::((eL tI s.ya0)::((i p.is7)::((i s.is8)::((b (decide (s.is8 < p.is7)))::(ra 13 []))))))))),[]⟩)],Gc9⟩
theorem Hc0:ub5.Ok:=Lo.ok [ub4.pr] (by kernel_rfl) (.cons Gc8 .nil) rfl (.cons (fun a H=>by kernel_rfl) .nil) fun p s=>(.of @ta0 (fun F _ _ _ _ _=>by unfold ta0;(repeat' apply l7 (f:=F))<;>rfl) (by kernel_rfl))
noncomputable def bb8 (x:List Int):Option (b7×List b8):=let t1:=(lp (pa4 (⟨(↑(List.length x):Int)⟩:Ha1)) (⟨0,(rt tI x),0⟩:fa1));(sl ((cnE tI x)&&true) (sl (Nat.beq t1.1 1) (some ((i (if (W (0 - t1.2.is3)) > t1.2.is3 then (W (0 - t1.2.is3)) else t1.2.is3)),[])) none) none)
noncomputable def ub6 (x:List Int):Int:=I5 (one r1I) (bb8 x)
noncomputable def ub7 (x:List Int):Bool:=okO (one r1I) (bb8 x)
noncomputable def xc7:Sum:=da3 (V2 tI) (fun x=>.guard (ub7 x) (.ret ((one r1I).enc (ub6 x),[])))
theorem id9:g7 prog G 218 xc7:=wa2 (bd Fe0 Vc8) (one r1I) (o:=bb8) fun x=>ya4 (.s .p (.s .p (.s (.s .p (.b (.u ub5.ls))) .p))) [ub5.pr] (by kernel_rfl) (.cons Hc0 .nil) (by kernel_rfl)
noncomputable def Vc9:List (Nat×Sum):=[(142,Mb9),(129,Eb6),(94,ub2),(54,kc1),(218,xc7)]
theorem Hc1:j7 prog G Vc9:=⟨xc6,Xb6,Mb8,Vc6,id9,trivial⟩
noncomputable def Pa6 (x:Tp):Option (b7×List b8):=let t1:=(M8 x.q.n x.r.n);let t3:=(N9 t1 x.p.b);let t4:=(la8 (⟨0,0,0⟩:V3) t3);let t5:=(M8 x.r.n x.p.n);let t7:=(N9 t5 x.q.b);let t8:=(la8 t4 t7);let t9:=(M8 x.p.n x.q.n);let t10:=(Ea4 x.r.n t9);let t11:=(N9 t9 x.r.b);let t12:=(la8 t8 t11);let t13:=(ub6 [t12.x,t12.y,t12.z,t10]);(sl (t10==0) (some ((.tup [(.agg [(i 0),(i 0),(i 0),(i 0)]),(b false)]),[])) (sl (ub7 [t12.x,t12.y,t12.z,t10]) (sl (decide (t10 < 0)) (sl ((W (0 - t13))==0) none (sl ((W (0 - t13))==0) none (sl ((W (0 - t13))==0) none (sl ((W (0 - t13))==0) none (some ((.tup [(.agg [(i (W (Int.tdiv t12.x (W (0 - t13))))),(i (W (Int.tdiv t12.y (W (0 - t13))))),(i (W (Int.tdiv t12.z (W (0 - t13))))),(i (W (Int.tdiv t10 (W (0 - t13)))))]),(b true)]),[])))))) (sl (t13==0) none (sl (t13==0) none (sl (t13==0) none (sl (t13==0) none (some ((.tup [(.agg [(i (W (Int.tdiv t12.x t13))),(i (W (Int.tdiv t12.y t13))),(i (W (Int.tdiv t12.z t13))),(i (W (Int.tdiv t10 t13)))]),(b true)]),[]))))))) none))
noncomputable def Pa7 (x:Tp):Pt×Bool:=I5 (two r1X r1B) (Pa6 x)
noncomputable def Pa8 (x:Tp):Bool:=okO (two r1X r1B) (Pa6 x)
noncomputable def kc2:Sum:=da3 (R2 tY) (fun x=>.guard (Pa8 x) (.ret ((two r1X r1B).enc (Pa7 x),[])))
theorem Wc0:g7 prog G 171 kc2:=wa2 (bd De1 Hc1) (two r1X r1B) (o:=Pa6) fun x=>r4 (by kernel_rfl)
structure Ba8 where
 la3:Int
 la4:Int
 la5:Int
 eb6:Int
 i5:Int
 c7:Int
 i6:Int
 d9:Int
noncomputable def fc1:List (Nat×Sum):=[(102,jb0)]
theorem Xb7:j7 prog G fc1:=⟨ub3,trivial⟩
structure na4 where
 bs0:Bool
noncomputable def na5 {α:Type} (kk:na4→α) (x:Ba8):α:=let t1:=(la9 (⟨(⟨x.la3,x.la4,x.la5⟩:V3),x.eb6⟩:Pln) (⟨x.i5,x.c7,x.i6,x.d9⟩:Pt));(kk ⟨(decide (t1 < 0))⟩)
noncomputable def Ta3 (x:Ba8):na4:=na5 (fun r=>r) x
noncomputable def La8 (x:Ba8) (r:na4):DT (b7×List b8):=.ret ((b r.bs0),[⟨0,4,[[(i x.i5),(i x.c7),(i x.i6),(i x.d9)]],true,false,0⟩])
theorem mc7 {α β:Type} (F:α→β) (kk:na4→α) (x:Ba8):F (na5 kk x)=na5 (fun r=>F (kk r)) x:=by unfold na5;(repeat' apply l7 (f:=F))<;>rfl
noncomputable def xb8:Sum:=ab2 ⟨[(.agg [(.o (.int .i64)),(.o (.int .i64)),(.o (.int .i64)),(.o (.int .i64))]),(.s (.o (.ptr 0 0 0 0)))],[⟨0,4,true,(some [[(.o (.int .i64)),(.o (.int .i64)),(.o (.int .i64)),(.o (.int .i64))]])⟩],fun a H=>(⟨(toI (slT (cellsOf (slT a 0)) 0)),(toI (slT (cellsOf (slT a 0)) 1)),(toI (slT (cellsOf (slT a 0)) 2)),(toI (slT (cellsOf (slT a 0)) 3)),(toI (slT (rwT (elT H 0) 0) 0)),(toI (slT (rwT (elT H 0) 0) 1)),(toI (slT (rwT (elT H 0) 0) 2)),(toI (slT (rwT (elT H 0) 0) 3))⟩,())⟩ (fun x=>La8 x (Ta3 x))
theorem fc2:g7 prog G 181 xb8:=O8 (enc:=fun x=>⟨[(.agg [(i x.la3),(i x.la4),(i x.la5),(i x.eb6)]),(.ptr 0 0 0 0)],[⟨0,4,[[(i x.i5),(i x.c7),(i x.i6),(i x.d9)]],true,false,0⟩]⟩) (fun a H=>by kernel_rfl) (bd De9 Xb7) fun x=>r4 (Eq.trans (b:=na5 (fun r=>(La8 x r).run) x) (by kernel_rfl) (mc7 (fun r=>(La8 x r).run) (fun r=>r) x).symm)
structure O9 where
 c8:List Pln
 i5:Int
 c7:Int
 i6:Int
 d9:Int
noncomputable def ta1:List (Nat×Sum):=[(181,xb8)]
theorem Wa7:j7 prog G ta1:=⟨fc2,trivial⟩
structure E5 where
 c8:List Pln
 is7:Int
 i5:Int
 c7:Int
 i6:Int
 d9:Int
structure m9 where
 is8:Int
noncomputable def Ta4 (p:E5) (s:m9):St:=⟨((eL tP p.c8)::((.fn 181 [(.ptr 0 0 0 0)])::(ra 5 ((i p.is7)::((i s.is8)::(ra 10 [])))))),[⟨0,4,[[(i p.i5),(i p.c7),(i p.i6),(i p.d9)]],true,false,0⟩]⟩
noncomputable def A7 {α:Type} (k:m9→α) (e:Nat→α) (z:α) (p:E5) (s:m9):α:=let t1:=(Ta3 ⟨(gL tP p.c8 s.is8.toNat).n.x,(gL tP p.c8 s.is8.toNat).n.y,(gL tP p.c8 s.is8.toNat).n.z,(gL tP p.c8 s.is8.toNat).b,p.i5,p.c7,p.i6,p.d9⟩);(sl (decide (s.is8 < p.is7)) (sl (inB s.is8 (List.length p.c8)) (sl t1.bs0 (e 1) (k ⟨(W (s.is8+1))⟩)) z) (e 2))
noncomputable def D1 (p:E5) (s:m9):Stp m9:=A7 .next .exit .fail p s
noncomputable def Y4:Lo E5 m9:=⟨En ta1,1,yd6,[1,0,1,4,4],[0,1,7,8],.p,[⟨((.s (.c 4 (nL tP)))::((.fn 181 [(.o (.ptr 0 0 0 0))])::(ru2 5 ((.s (.o (.int .i64)))::((.s (.o (.int .i64)))::(ru2 10 [])))))),[⟨0,4,true,(some [[(.o (.int .i64)),(.o (.int .i64)),(.o (.int .i64)),(.o (.int .i64))]])⟩],fun a H=>(⟨(rL tP (slT a 0)),(toI (slT a 7)),(toI (slT (rwT (elT H 0) 0) 0)),(toI (slT (rwT (elT H 0) 0) 1)),(toI (slT (rwT (elT H 0) 0) 2)),(toI (slT (rwT (elT H 0) 0) 3))⟩,⟨(toI (slT a 8))⟩)⟩],D1,[(none,fun p s=>⟨[(i s.is8)],[⟨0,4,[[(i p.i5),(i p.c7),(i p.i6),(i p.d9)]],true,false,0⟩]⟩),(some 0,fun p s=>⟨((eL tP p.c8)::((.fn 181 [(.ptr 0 0 0 0)])::(ra 5 ((i p.is7)::((i s.is8)::((b (decide (s.is8 < p.is7)))::(ra 9 []))))))),[⟨0,4,[[(i p.i5),(i p.c7),(i p.i6),(i p.d9)]],true,false,0⟩]⟩)],Ta4⟩
theorem Ta5:Y4.Ok:=Lo.ok [] (by kernel_rfl) .nil rfl (.cons (fun a H=>by kernel_rfl) .nil) fun p s=>(.of @A7 (fun F _ _ _ _ _=>by unfold A7;(repeat' apply l7 (f:=F))<;>rfl) (by kernel_rfl))
structure P0 where
 alt:Nat
 is0:Int
noncomputable def B5 {α:Type} (kk:P0→α) (x:O9):α:=let t1:=(lp (D1 (⟨(rt tP x.c8),(↑(List.length x.c8):Int),x.i5,x.c7,x.i6,x.d9⟩:E5)) (⟨0⟩:m9));(sl ((cnE tP x.c8)&&true) (sl (Nat.beq t1.1 1) (kk ⟨1,t1.2.is8⟩) (sl (Nat.beq t1.1 2) (kk ⟨1,(-1)⟩) (kk ⟨0,0⟩))) (kk ⟨0,0⟩))
noncomputable def P1 (x:O9):P0:=B5 (fun r=>r) x
noncomputable def ba1 (x:O9) (r:P0):DT (b7×List b8):=(.ite (Nat.beq r.alt 1) (.ret ((i r.is0),[⟨0,4,[[(i x.i5),(i x.c7),(i x.i6),(i x.d9)]],true,false,0⟩])) .fail)
theorem eb8 {α β:Type} (F:α→β) (kk:P0→α) (x:O9):F (B5 kk x)=B5 (fun r=>F (kk r)) x:=by unfold B5;(repeat' apply l7 (f:=F))<;>rfl
noncomputable def xa2:Sum:=ab2 ⟨[(.s (.c 4 (nL tP))),(.fn 181 [(.o (.ptr 0 0 0 0))])],[⟨0,4,true,(some [[(.o (.int .i64)),(.o (.int .i64)),(.o (.int .i64)),(.o (.int .i64))]])⟩],fun a H=>(⟨(rL tP (slT a 0)),(toI (slT (rwT (elT H 0) 0) 0)),(toI (slT (rwT (elT H 0) 0) 1)),(toI (slT (rwT (elT H 0) 0) 2)),(toI (slT (rwT (elT H 0) 0) 3))⟩,())⟩ (fun x=>ba1 x (P1 x))
theorem bb9:g7 prog G 163 xa2:=O8 (enc:=fun x=>⟨[(eL tP x.c8),(.fn 181 [(.ptr 0 0 0 0)])],[⟨0,4,[[(i x.i5),(i x.c7),(i x.i6),(i x.d9)]],true,false,0⟩]⟩) (fun a H=>by kernel_rfl) (bd ke1 Wa7) fun x=>ya4 (.s .p (.s (.s .p (.b (.u Y4.ls))) .p)) [Y4.pr] (by kernel_rfl) (.cons Ta5 .nil) (Eq.trans (b:=B5 (fun r=>(ba1 x r).run) x) (by kernel_rfl) (eb8 (fun r=>(ba1 x r).run) (fun r=>r) x).symm)
structure J4 where
 c8:List Pln
 i5:Int
 c7:Int
 i6:Int
 d9:Int
noncomputable def Pa9:List (Nat×Sum):=[(163,xa2)]
theorem La9:j7 prog G Pa9:=⟨bb9,trivial⟩
structure J5 where
 alt:Nat
 bs0:Bool
noncomputable def w8 {α:Type} (kk:J5→α) (x:J4):α:=let t1:=(P1 ⟨(rt tP x.c8),x.i5,x.c7,x.i6,x.d9⟩);(sl ((cnE tP x.c8)&&true) (sl (Nat.beq t1.alt 1) (kk ⟨1,(decide (t1.is0≥0))⟩) (kk ⟨0,false⟩)) (kk ⟨0,false⟩))
noncomputable def W5 (x:J4):J5:=w8 (fun r=>r) x
noncomputable def T9 (x:J4) (r:J5):DT (b7×List b8):=(.ite (Nat.beq r.alt 1) (.ret ((b r.bs0),[⟨0,4,[[(i x.i5),(i x.c7),(i x.i6),(i x.d9)]],true,false,0⟩])) .fail)
theorem Ta6 {α β:Type} (F:α→β) (kk:J5→α) (x:J4):F (w8 kk x)=w8 (fun r=>F (kk r)) x:=by unfold w8;(repeat' apply l7 (f:=F))<;>rfl
noncomputable def na6:Sum:=ab2 ⟨[(.s (.c 4 (nL tP))),(.fn 181 [(.o (.ptr 0 0 0 0))])],[⟨0,4,true,(some [[(.o (.int .i64)),(.o (.int .i64)),(.o (.int .i64)),(.o (.int .i64))]])⟩],fun a H=>(⟨(rL tP (slT a 0)),(toI (slT (rwT (elT H 0) 0) 0)),(toI (slT (rwT (elT H 0) 0) 1)),(toI (slT (rwT (elT H 0) 0) 2)),(toI (slT (rwT (elT H 0) 0) 3))⟩,())⟩ (fun x=>T9 x (W5 x))
theorem Qa0:g7 prog G 83 na6:=O8 (enc:=fun x=>⟨[(eL tP x.c8),(.fn 181 [(.ptr 0 0 0 0)])],[⟨0,4,[[(i x.i5),(i x.c7),(i x.i6),(i x.d9)]],true,false,0⟩]⟩) (fun a H=>by kernel_rfl) (bd b83 La9) fun x=>r4 (Eq.trans (b:=w8 (fun r=>(T9 x r).run) x) (by kernel_rfl) (Ta6 (fun r=>(T9 x r).run) (fun r=>r) x).symm)
noncomputable def xc8:List (Nat×Sum):=[(83,na6)]
theorem mc8:j7 prog G xc8:=⟨Qa0,trivial⟩
noncomputable def za8 (x:List Pln) (y:Pt):Option (b7×List b8):=let t1:=(W5 ⟨(rt tP x),y.px,y.py,y.pz,y.pw⟩);(sl ((cnE tP x)&&true) (sl (Nat.beq t1.alt 1) (some ((b (!t1.bs0)),[])) none) none)
noncomputable def S7 (x:List Pln) (y:Pt):Bool:=I5 (one r1B) (za8 x y)
noncomputable def S8 (x:List Pln) (y:Pt):Bool:=okO (one r1B) (za8 x y)
noncomputable def Na7:Sum:=ja0 (V2 tP) (R2 tX) (fun x y=>.guard (S8 x y) (.ret ((one r1B).enc (S7 x y),[])))
theorem cb0:g7 prog G 108 Na7:=eb7 (bd Be0 mc8) (one r1B) (o:=za8) fun x y=>r4 (by kernel_rfl)
noncomputable def za9:List (Nat×Sum):=[]
theorem eb9:j7 prog G za9:=trivial
@[reducible] noncomputable def Ea5:Sum:=j6 (En za9) fe0
theorem lb0:g7 prog G 217 Ea5:=bd Ee9 eb9
noncomputable def Ha2:List (Nat×Sum):=[(217,Ea5)]
theorem pb6:j7 prog G Ha2:=⟨lb0,trivial⟩
@[reducible] noncomputable def Ka9:Sum:=j6 (En Ha2) ee3
theorem ub8:g7 prog G 170 Ka9:=bd De0 pb6
noncomputable def Y5:List (Nat×Sum):=[(171,kc2),(108,Na7),(170,Ka9)]
theorem pb7:j7 prog G Y5:=⟨Wc0,cb0,ub8,trivial⟩
structure g8 where
 is3:Int
 M7:List Pln
 Ka8:Int
 R9:Int
 bc3:Nat
 Ya1:Nat→List b7
 ca6:Int
 da2:Int
 vd7:Nat
 Va8:Nat→List b7
 ad4:Int
 d7:List Pln
 F9:Int
 G0:Int
 G1:Int
 G2:Int
 L9:Int
 M0:Int
 M1:Int
 Ya2:Int
 la6:List Pln
structure g9 where
 ph:Nat
 oa9:Int
 Oa3:Nat
 eh6:List (List b7)
 eh7:List (List b7)
noncomputable def fb0 (p:g8) (s:g9):St:=⟨(.unk::((.ptr 0 0 0 0)::(.unk::((i p.is3)::((.ptr 1 0 0 0)::(.unk::((.ptr 2 0 0 0)::(.unk::(.unk::((eL tP p.M7)::((i p.Ka8)::((i p.R9)::(ra 7 ((.tree 4 p.bc3 p.Ya1)::((i p.ca6)::((i p.da2)::(ra 9 ((.tree 4 p.vd7 p.Va8)::((i p.ad4)::((i s.oa9)::(ra 13 ((i 0)::(.unk::((.ptr 3 0 0 0)::((.v (.slice none 0 0))::((.ptr 4 0 0 0)::((.ptr 5 0 0 0)::(ra 31 [])))))))))))))))))))))))))))),[⟨0,1,[[(eL tP p.d7)]],true,false,0⟩,⟨0,4,[[(i p.F9),(i p.G0),(i p.G1),(i p.G2)]],true,false,0⟩,⟨0,4,[[(i p.L9),(i p.M0),(i p.M1),(i p.Ya2)]],true,false,0⟩,⟨0,1,[[(eL tP p.la6)]],true,false,0⟩,⟨0,0,[[(.v (.slice none 0 0))]],true,false,0⟩,⟨0,0,[[(.ptr 6 0 0 0)]],true,false,0⟩,⟨174,0,[],true,false,0⟩]⟩
noncomputable def fb1 (p:g8) (s:g9):St:=⟨(.unk::((.ptr 0 0 0 0)::(.unk::((i p.is3)::((.ptr 1 0 0 0)::(.unk::((.ptr 2 0 0 0)::(.unk::(.unk::((eL tP p.M7)::((i p.Ka8)::((i p.R9)::(ra 7 ((.tree 4 p.bc3 p.Ya1)::((i p.ca6)::((i p.da2)::(ra 9 ((.tree 4 p.vd7 p.Va8)::((i p.ad4)::((i s.oa9)::(ra 13 ((i 0)::(.unk::((.ptr 3 0 0 0)::((.v (.slice none 0 0))::((.ptr 4 0 0 0)::((.ptr 5 0 0 0)::(ra 31 [])))))))))))))))))))))))))))),[⟨0,1,[[(eL tP p.d7)]],true,false,0⟩,⟨0,4,[[(i p.F9),(i p.G0),(i p.G1),(i p.G2)]],true,false,0⟩,⟨0,4,[[(i p.L9),(i p.M0),(i p.M1),(i p.Ya2)]],true,false,0⟩,⟨0,1,[[(eL tP p.la6)]],true,false,0⟩,⟨0,0,[[(.sl 6 0 s.Oa3 0)]],true,false,0⟩,⟨0,0,[[(.ptr 7 0 0 0)]],true,false,0⟩,⟨54,4,s.eh6,true,false,0⟩,⟨174,0,s.eh7,true,false,0⟩]⟩
noncomputable def lb1 (p:g8) (s:g9):St:=(sel (Nat.beq s.ph 1) (fb1 p s) (fb0 p s))
noncomputable def s8 {α:Type} (k:g9→α) (e:Nat→α) (z:α) (p:g8) (s:g9):α:=let t1:=(Pa7 (⟨(⟨(⟨p.F9,p.G0,p.G1⟩:V3),p.G2⟩:Pln),(⟨(⟨p.L9,p.M0,p.M1⟩:V3),p.Ya2⟩:Pln),(⟨(⟨(toI (hdA (p.Va8 s.oa9.toNat))),(toI (hdA (tlA (p.Va8 s.oa9.toNat)))),(toI (hdA (tlA (tlA (p.Va8 s.oa9.toNat)))))⟩:V3),(toI (hdA (tlA (tlA (tlA (p.Va8 s.oa9.toNat))))))⟩:Pln)⟩:Tp));let t2:=(S7 (rt tP p.la6) t1.1);(sl (decide (s.oa9 < p.ad4)) (sl (inB s.oa9 p.vd7) (sl ((Nat.ble 4 (len (p.Va8 s.oa9.toNat)))&&(K7 [(CK.int .i64),(CK.int .i64),(CK.int .i64),(CK.int .i64)] (p.Va8 s.oa9.toNat))) (sl (Pa8 (⟨(⟨(⟨p.F9,p.G0,p.G1⟩:V3),p.G2⟩:Pln),(⟨(⟨p.L9,p.M0,p.M1⟩:V3),p.Ya2⟩:Pln),(⟨(⟨(toI (hdA (p.Va8 s.oa9.toNat))),(toI (hdA (tlA (p.Va8 s.oa9.toNat)))),(toI (hdA (tlA (tlA (p.Va8 s.oa9.toNat)))))⟩:V3),(toI (hdA (tlA (tlA (tlA (p.Va8 s.oa9.toNat))))))⟩:Pln)⟩:Tp)) (sl t1.2 (sl (!(Sb9 4 [(0,(.int .i64)),(1,(.int .i64)),(2,(.int .i64)),(3,(.int .i64))] [(i t1.1.px),(i t1.1.py),(i t1.1.pz),(i t1.1.pw)] [])) (sl (okE tP p.la6) (sl (S8 (rt tP p.la6) t1.1) (sl t2 (k ⟨1,(W (s.oa9+1)),1,[[(i t1.1.px),(i t1.1.py),(i t1.1.pz),(i t1.1.pw)]],(jb7 [(0,(.int .i64)),(1,(.int .i64)),(2,(.int .i64)),(3,(.int .i64))] [(i t1.1.px),(i t1.1.py),(i t1.1.pz),(i t1.1.pw)] [(i t1.1.px),(i t1.1.py),(i t1.1.pz),(i t1.1.pw),(b true)] [])⟩) (k ⟨0,(W (s.oa9+1)),0,[],[]⟩)) z) z) (k ⟨0,(W (s.oa9+1)),0,[],[]⟩)) (k ⟨0,(W (s.oa9+1)),0,[],[]⟩)) z) z) z) (e 1))
noncomputable def s9 {α:Type} (k:g9→α) (e:Nat→α) (z:α) (p:g8) (s:g9):α:=let t1:=(Pa7 (⟨(⟨(⟨p.F9,p.G0,p.G1⟩:V3),p.G2⟩:Pln),(⟨(⟨p.L9,p.M0,p.M1⟩:V3),p.Ya2⟩:Pln),(⟨(⟨(toI (hdA (p.Va8 s.oa9.toNat))),(toI (hdA (tlA (p.Va8 s.oa9.toNat)))),(toI (hdA (tlA (tlA (p.Va8 s.oa9.toNat)))))⟩:V3),(toI (hdA (tlA (tlA (tlA (p.Va8 s.oa9.toNat))))))⟩:Pln)⟩:Tp));let t2:=(S7 (rt tP p.la6) t1.1);(sl (decide (s.oa9 < p.ad4)) (sl (inB s.oa9 p.vd7) (sl ((Nat.ble 4 (len (p.Va8 s.oa9.toNat)))&&(K7 [(CK.int .i64),(CK.int .i64),(CK.int .i64),(CK.int .i64)] (p.Va8 s.oa9.toNat))) (sl (Pa8 (⟨(⟨(⟨p.F9,p.G0,p.G1⟩:V3),p.G2⟩:Pln),(⟨(⟨p.L9,p.M0,p.M1⟩:V3),p.Ya2⟩:Pln),(⟨(⟨(toI (hdA (p.Va8 s.oa9.toNat))),(toI (hdA (tlA (p.Va8 s.oa9.toNat)))),(toI (hdA (tlA (tlA (p.Va8 s.oa9.toNat)))))⟩:V3),(toI (hdA (tlA (tlA (tlA (p.Va8 s.oa9.toNat))))))⟩:Pln)⟩:Tp)) (sl t1.2 (sl (!(Sb9 4 [(0,(.int .i64)),(1,(.int .i64)),(2,(.int .i64)),(3,(.int .i64))] [(i t1.1.px),(i t1.1.py),(i t1.1.pz),(i t1.1.pw)] s.eh7)) (sl (okE tP p.la6) (sl (S8 (rt tP p.la6) t1.1) (sl t2 (sl (Nat.beq s.Oa3 (len s.eh6)&&Nat.ble ((s.Oa3+1)*32) room) (k ⟨1,(W (s.oa9+1)),(s.Oa3+1),(app s.eh6 [[(i t1.1.px),(i t1.1.py),(i t1.1.pz),(i t1.1.pw)]]),(jb7 [(0,(.int .i64)),(1,(.int .i64)),(2,(.int .i64)),(3,(.int .i64))] [(i t1.1.px),(i t1.1.py),(i t1.1.pz),(i t1.1.pw)] [(i t1.1.px),(i t1.1.py),(i t1.1.pz),(i t1.1.pw),(b true)] s.eh7)⟩) z) (k ⟨1,(W (s.oa9+1)),s.Oa3,s.eh6,s.eh7⟩)) z) z) (k ⟨1,(W (s.oa9+1)),s.Oa3,s.eh6,s.eh7⟩)) (k ⟨1,(W (s.oa9+1)),s.Oa3,s.eh6,s.eh7⟩)) z) z) z) (e 2))
noncomputable def r5 (p:g8) (s:g9):Stp g9:=(sel (Nat.beq s.ph 1) (s9 .next .exit .fail p s) (s8 .next .exit .fail p s))
noncomputable def ja7:Lo g8 g9:=⟨En Y5,0,Xd1,[1,1,1,0,1,4,4,1,4,4,1,1,0,4,1,1,4,4,1,1,0,4,1,1,4,4],[1,3,4,6,9,10,11,19,20,21,31,32,33,47,49,50,51,52],.p,[⟨((.s (.o .unk))::((.s (.o (.ptr 0 0 0 0)))::((.s (.o .unk))::((.s (.o (.int .i64)))::((.s (.o (.ptr 1 0 0 0)))::((.s (.o .unk))::((.s (.o (.ptr 2 0 0 0)))::((.s (.o .unk))::((.s (.o .unk))::((.s (.c 4 (nL tP)))::((.s (.o (.int .i64)))::((.s (.o (.int .i64)))::(ru2 7 ((.s (.o (.tree 4)))::((.s (.o (.int .i64)))::((.s (.o (.int .i64)))::(ru2 9 ((.s (.o (.tree 4)))::((.s (.o (.int .i64)))::((.s (.o (.int .i64)))::(ru2 13 ((.s (.o (.lit .i64 0)))::((.s (.o .unk))::((.s (.o (.ptr 3 0 0 0)))::((.s (.o .nil))::((.s (.o (.ptr 4 0 0 0)))::((.s (.o (.ptr 5 0 0 0)))::(ru2 31 [])))))))))))))))))))))))))))),[⟨0,1,true,(some [[(.c 4 (nL tP))]])⟩,⟨0,4,true,(some [[(.o (.int .i64)),(.o (.int .i64)),(.o (.int .i64)),(.o (.int .i64))]])⟩,⟨0,4,true,(some [[(.o (.int .i64)),(.o (.int .i64)),(.o (.int .i64)),(.o (.int .i64))]])⟩,⟨0,1,true,(some [[(.c 4 (nL tP))]])⟩,⟨0,0,true,(some [[(.o .nil)]])⟩,⟨0,0,true,(some [[(.o (.ptr 6 0 0 0))]])⟩,⟨174,0,true,(some [])⟩],fun a H=>(⟨(toI (slT a 3)),(rL tP (slT a 9)),(toI (slT a 10)),(toI (slT a 11)),(toN (slT a 19)),(toG (slT a 19)),(toI (slT a 20)),(toI (slT a 21)),(toN (slT a 31)),(toG (slT a 31)),(toI (slT a 32)),(rL tP (slT (rwT (elT H 0) 0) 0)),(toI (slT (rwT (elT H 1) 0) 0)),(toI (slT (rwT (elT H 1) 0) 1)),(toI (slT (rwT (elT H 1) 0) 2)),(toI (slT (rwT (elT H 1) 0) 3)),(toI (slT (rwT (elT H 2) 0) 0)),(toI (slT (rwT (elT H 2) 0) 1)),(toI (slT (rwT (elT H 2) 0) 2)),(toI (slT (rwT (elT H 2) 0) 3)),(rL tP (slT (rwT (elT H 3) 0) 0))⟩,⟨0,(toI (slT a 33)),0,[],[]⟩)⟩,⟨((.s (.o .unk))::((.s (.o (.ptr 0 0 0 0)))::((.s (.o .unk))::((.s (.o (.int .i64)))::((.s (.o (.ptr 1 0 0 0)))::((.s (.o .unk))::((.s (.o (.ptr 2 0 0 0)))::((.s (.o .unk))::((.s (.o .unk))::((.s (.c 4 (nL tP)))::((.s (.o (.int .i64)))::((.s (.o (.int .i64)))::(ru2 7 ((.s (.o (.tree 4)))::((.s (.o (.int .i64)))::((.s (.o (.int .i64)))::(ru2 9 ((.s (.o (.tree 4)))::((.s (.o (.int .i64)))::((.s (.o (.int .i64)))::(ru2 13 ((.s (.o (.lit .i64 0)))::((.s (.o .unk))::((.s (.o (.ptr 3 0 0 0)))::((.s (.o .nil))::((.s (.o (.ptr 4 0 0 0)))::((.s (.o (.ptr 5 0 0 0)))::(ru2 31 [])))))))))))))))))))))))))))),[⟨0,1,true,(some [[(.c 4 (nL tP))]])⟩,⟨0,4,true,(some [[(.o (.int .i64)),(.o (.int .i64)),(.o (.int .i64)),(.o (.int .i64))]])⟩,⟨0,4,true,(some [[(.o (.int .i64)),(.o (.int .i64)),(.o (.int .i64)),(.o (.int .i64))]])⟩,⟨0,1,true,(some [[(.c 4 (nL tP))]])⟩,⟨0,0,true,(some [[(.o (.sl 6 0 (some 0) none))]])⟩,⟨0,0,true,(some [[(.o (.ptr 7 0 0 0))]])⟩,⟨54,4,true,none⟩,⟨174,0,true,none⟩],fun a H=>(⟨(toI (slT a 3)),(rL tP (slT a 9)),(toI (slT a 10)),(toI (slT a 11)),(toN (slT a 19)),(toG (slT a 19)),(toI (slT a 20)),(toI (slT a 21)),(toN (slT a 31)),(toG (slT a 31)),(toI (slT a 32)),(rL tP (slT (rwT (elT H 0) 0) 0)),(toI (slT (rwT (elT H 1) 0) 0)),(toI (slT (rwT (elT H 1) 0) 1)),(toI (slT (rwT (elT H 1) 0) 2)),(toI (slT (rwT (elT H 1) 0) 3)),(toI (slT (rwT (elT H 2) 0) 0)),(toI (slT (rwT (elT H 2) 0) 1)),(toI (slT (rwT (elT H 2) 0) 2)),(toI (slT (rwT (elT H 2) 0) 3)),(rL tP (slT (rwT (elT H 3) 0) 0))⟩,⟨1,(toI (slT a 33)),(slN (slT (rwT (elT H 4) 0) 0)),(elT H 6),(elT H 7)⟩)⟩],r5,[(some 4,fun p s=>⟨(.unk::((.ptr 0 0 0 0)::(.unk::((i p.is3)::((.ptr 1 0 0 0)::(.unk::((.ptr 2 0 0 0)::(.unk::(.unk::((eL tP p.M7)::((i p.Ka8)::((i p.R9)::(ra 7 ((.tree 4 p.bc3 p.Ya1)::((i p.ca6)::((i p.da2)::(ra 9 ((.tree 4 p.vd7 p.Va8)::((i p.ad4)::((i s.oa9)::((b (decide (s.oa9 < p.ad4)))::(ra 12 ((i 0)::(.unk::((.ptr 3 0 0 0)::((.v (.slice none 0 0))::((.ptr 4 0 0 0)::((.ptr 5 0 0 0)::(ra 31 []))))))))))))))))))))))))))))),[⟨0,1,[[(eL tP p.d7)]],true,false,0⟩,⟨0,4,[[(i p.F9),(i p.G0),(i p.G1),(i p.G2)]],true,false,0⟩,⟨0,4,[[(i p.L9),(i p.M0),(i p.M1),(i p.Ya2)]],true,false,0⟩,⟨0,1,[[(eL tP p.la6)]],true,false,0⟩,⟨0,0,[[(.v (.slice none 0 0))]],true,false,0⟩,⟨0,0,[[(.ptr 6 0 0 0)]],true,false,0⟩,⟨174,0,[],true,false,0⟩]⟩),(some 4,fun p s=>⟨(.unk::((.ptr 0 0 0 0)::(.unk::((i p.is3)::((.ptr 1 0 0 0)::(.unk::((.ptr 2 0 0 0)::(.unk::(.unk::((eL tP p.M7)::((i p.Ka8)::((i p.R9)::(ra 7 ((.tree 4 p.bc3 p.Ya1)::((i p.ca6)::((i p.da2)::(ra 9 ((.tree 4 p.vd7 p.Va8)::((i p.ad4)::((i s.oa9)::((b (decide (s.oa9 < p.ad4)))::(ra 12 ((i 0)::(.unk::((.ptr 3 0 0 0)::((.v (.slice none 0 0))::((.ptr 4 0 0 0)::((.ptr 5 0 0 0)::(ra 31 []))))))))))))))))))))))))))))),[⟨0,1,[[(eL tP p.d7)]],true,false,0⟩,⟨0,4,[[(i p.F9),(i p.G0),(i p.G1),(i p.G2)]],true,false,0⟩,⟨0,4,[[(i p.L9),(i p.M0),(i p.M1),(i p.Ya2)]],true,false,0⟩,⟨0,1,[[(eL tP p.la6)]],true,false,0⟩,⟨0,0,[[(.sl 6 0 s.Oa3 0)]],true,false,0⟩,⟨0,0,[[(.ptr 7 0 0 0)]],true,false,0⟩,⟨54,4,s.eh6,true,false,0⟩,⟨174,0,s.eh7,true,false,0⟩]⟩)],lb1⟩
theorem lb2:ja7.OkM:=Lo.okM [] (by kernel_rfl) .nil rfl (.cons (fun a H=>by kernel_rfl) (.cons (fun a H=>by kernel_rfl) .nil)) fun p s=>(.sel (Nat.beq s.ph 1) (.of @s9 (fun F _ _ _ _ _=>by unfold s9;(repeat' apply l7 (f:=F))<;>rfl) (by kernel_rfl)) (.of @s8 (fun F _ _ _ _ _=>by unfold s8;(repeat' apply l7 (f:=F))<;>rfl) (by kernel_rfl)))
structure i4 where
 is3:Int
 Ka8:Int
 R9:Int
 bc3:Nat
 Ya1:Nat→List b7
 ca6:Int
 F9:Int
 G0:Int
 G1:Int
 G2:Int
structure i8 where
 ph:Nat
 M7:List Pln
 da2:Int
 d7:List Pln
 O2:List Pln
 bc4:Nat
 eh5:List (List b7)
 eh6:List (List b7)
noncomputable def fb2 (p:i4) (s:i8):St:=⟨(.unk::((.ptr 0 0 0 0)::(.unk::((i p.is3)::((.ptr 1 0 0 0)::(ra 4 ((eL tP s.M7)::((i p.Ka8)::((i p.R9)::(ra 7 ((.tree 4 p.bc3 p.Ya1)::((i p.ca6)::((i s.da2)::(ra 25 ((i 0)::(.unk::((.ptr 2 0 0 0)::((.v (.slice none 0 0))::((.ptr 3 0 0 0)::((.ptr 4 0 0 0)::(ra 31 []))))))))))))))))))))),[⟨0,1,[[(eL tP s.d7)]],true,false,0⟩,⟨0,4,[[(i p.F9),(i p.G0),(i p.G1),(i p.G2)]],true,false,0⟩,⟨0,1,[[(eL tP s.O2)]],true,false,0⟩,⟨0,0,[[(.v (.slice none 0 0))]],true,false,0⟩,⟨0,0,[[(.ptr 5 0 0 0)]],true,false,0⟩,⟨174,0,[],true,false,0⟩]⟩
noncomputable def fb3 (p:i4) (s:i8):St:=⟨(.unk::((.ptr 0 0 0 0)::(.unk::((i p.is3)::((.ptr 1 0 0 0)::(ra 4 ((eL tP s.M7)::((i p.Ka8)::((i p.R9)::(ra 7 ((.tree 4 p.bc3 p.Ya1)::((i p.ca6)::((i s.da2)::(ra 25 ((i 0)::(.unk::((.ptr 2 0 0 0)::((.v (.slice none 0 0))::((.ptr 3 0 0 0)::((.ptr 4 0 0 0)::(ra 31 []))))))))))))))))))))),[⟨0,1,[[(eL tP s.d7)]],true,false,0⟩,⟨0,4,[[(i p.F9),(i p.G0),(i p.G1),(i p.G2)]],true,false,0⟩,⟨0,1,[[(eL tP s.O2)]],true,false,0⟩,⟨0,0,[[(.sl 5 0 s.bc4 0)]],true,false,0⟩,⟨0,0,[[(.ptr 6 0 0 0)]],true,false,0⟩,⟨54,4,s.eh5,true,false,0⟩,⟨174,0,s.eh6,true,false,0⟩]⟩
noncomputable def lb3 (p:i4) (s:i8):St:=(sel (Nat.beq s.ph 1) (fb3 p s) (fb2 p s))
noncomputable def u9 {α:Type} (k:i8→α) (e:Nat→α) (z:α) (p:i4) (s:i8):α:=let t1:=(lp (r5 (⟨p.is3,(rt tP s.M7),p.Ka8,p.R9,p.bc3,p.Ya1,p.ca6,s.da2,((List.length s.d7) - (W ((W (p.is3+s.da2))+2)).toNat),(fun k=>(fun k=>(tP).row (gL tP s.d7 k)) ((W ((W (p.is3+s.da2))+2)).toNat+k)),(↑((List.length s.d7) - (W ((W (p.is3+s.da2))+2)).toNat):Int),(rt tP s.d7),p.F9,p.G0,p.G1,p.G2,(toI (hdA (p.Ya1 s.da2.toNat))),(toI (hdA (tlA (p.Ya1 s.da2.toNat)))),(toI (hdA (tlA (tlA (p.Ya1 s.da2.toNat))))),(toI (hdA (tlA (tlA (tlA (p.Ya1 s.da2.toNat)))))),(rt tP s.O2)⟩:g8)) (⟨0,0,0,[],[]⟩:g9));(sl (decide (s.da2 < p.ca6)) (sl (inB s.da2 p.bc3) (sl ((Nat.ble 4 (len (p.Ya1 s.da2.toNat)))&&(K7 [(CK.int .i64),(CK.int .i64),(CK.int .i64),(CK.int .i64)] (p.Ya1 s.da2.toNat))) (sl (inB (W ((W (p.is3+s.da2))+2)) ((List.length s.d7)+1)) (sl ((cnE tP s.M7)&&((cnE tP s.d7)&&((cnE tP s.O2)&&true))) (sl (Nat.beq t1.1 1) (k ⟨0,(rt tP s.M7),(W (s.da2+1)),(rt tP s.d7),(rt tP s.O2),0,[],[]⟩) (sl (Nat.beq t1.1 2) (k ⟨1,(rt tP s.M7),(W (s.da2+1)),(rt tP s.d7),(rt tP s.O2),t1.2.Oa3,t1.2.eh6,t1.2.eh7⟩) z)) z) z) z) z) (e 1))
noncomputable def v7 {α:Type} (k:i8→α) (e:Nat→α) (z:α) (p:i4) (s:i8):α:=let t1:=(lp (r5 (⟨p.is3,(rt tP s.M7),p.Ka8,p.R9,p.bc3,p.Ya1,p.ca6,s.da2,((List.length s.d7) - (W ((W (p.is3+s.da2))+2)).toNat),(fun k=>(fun k=>(tP).row (gL tP s.d7 k)) ((W ((W (p.is3+s.da2))+2)).toNat+k)),(↑((List.length s.d7) - (W ((W (p.is3+s.da2))+2)).toNat):Int),(rt tP s.d7),p.F9,p.G0,p.G1,p.G2,(toI (hdA (p.Ya1 s.da2.toNat))),(toI (hdA (tlA (p.Ya1 s.da2.toNat)))),(toI (hdA (tlA (tlA (p.Ya1 s.da2.toNat))))),(toI (hdA (tlA (tlA (tlA (p.Ya1 s.da2.toNat)))))),(rt tP s.O2)⟩:g8)) (⟨1,0,s.bc4,s.eh5,s.eh6⟩:g9));(sl (decide (s.da2 < p.ca6)) (sl (inB s.da2 p.bc3) (sl ((Nat.ble 4 (len (p.Ya1 s.da2.toNat)))&&(K7 [(CK.int .i64),(CK.int .i64),(CK.int .i64),(CK.int .i64)] (p.Ya1 s.da2.toNat))) (sl (inB (W ((W (p.is3+s.da2))+2)) ((List.length s.d7)+1)) (sl ((cnE tP s.M7)&&((cnE tP s.d7)&&((cnE tP s.O2)&&true))) (sl (Nat.beq t1.1 1) (k ⟨0,(rt tP s.M7),(W (s.da2+1)),(rt tP s.d7),(rt tP s.O2),0,[],[]⟩) (sl (Nat.beq t1.1 2) (k ⟨1,(rt tP s.M7),(W (s.da2+1)),(rt tP s.d7),(rt tP s.O2),t1.2.Oa3,t1.2.eh6,t1.2.eh7⟩) z)) z) z) z) z) (e 2))
noncomputable def r6 (p:i4) (s:i8):Stp i8:=(sel (Nat.beq s.ph 1) (v7 .next .exit .fail p s) (u9 .next .exit .fail p s))
noncomputable def ja8:Lo i4 i8:=⟨En Y5,0,Xd1,[1,1,1,0,1,4,4,1,4,4,1,1,0,4,1,1,4,4],[1,3,4,9,10,11,19,20,21,47,49,50,51,52],(.s .p (.s .p (.s (.b (.s .p (.s .p (.b (.u ja7.lsM))))) .p))),[⟨((.s (.o .unk))::((.s (.o (.ptr 0 0 0 0)))::((.s (.o .unk))::((.s (.o (.int .i64)))::((.s (.o (.ptr 1 0 0 0)))::(ru2 4 ((.s (.c 4 (nL tP)))::((.s (.o (.int .i64)))::((.s (.o (.int .i64)))::(ru2 7 ((.s (.o (.tree 4)))::((.s (.o (.int .i64)))::((.s (.o (.int .i64)))::(ru2 25 ((.s (.o (.lit .i64 0)))::((.s (.o .unk))::((.s (.o (.ptr 2 0 0 0)))::((.s (.o .nil))::((.s (.o (.ptr 3 0 0 0)))::((.s (.o (.ptr 4 0 0 0)))::(ru2 31 []))))))))))))))))))))),[⟨0,1,true,(some [[(.c 4 (nL tP))]])⟩,⟨0,4,true,(some [[(.o (.int .i64)),(.o (.int .i64)),(.o (.int .i64)),(.o (.int .i64))]])⟩,⟨0,1,true,(some [[(.c 4 (nL tP))]])⟩,⟨0,0,true,(some [[(.o .nil)]])⟩,⟨0,0,true,(some [[(.o (.ptr 5 0 0 0))]])⟩,⟨174,0,true,(some [])⟩],fun a H=>(⟨(toI (slT a 3)),(toI (slT a 10)),(toI (slT a 11)),(toN (slT a 19)),(toG (slT a 19)),(toI (slT a 20)),(toI (slT (rwT (elT H 1) 0) 0)),(toI (slT (rwT (elT H 1) 0) 1)),(toI (slT (rwT (elT H 1) 0) 2)),(toI (slT (rwT (elT H 1) 0) 3))⟩,⟨0,(rL tP (slT a 9)),(toI (slT a 21)),(rL tP (slT (rwT (elT H 0) 0) 0)),(rL tP (slT (rwT (elT H 2) 0) 0)),0,[],[]⟩)⟩,⟨((.s (.o .unk))::((.s (.o (.ptr 0 0 0 0)))::((.s (.o .unk))::((.s (.o (.int .i64)))::((.s (.o (.ptr 1 0 0 0)))::(ru2 4 ((.s (.c 4 (nL tP)))::((.s (.o (.int .i64)))::((.s (.o (.int .i64)))::(ru2 7 ((.s (.o (.tree 4)))::((.s (.o (.int .i64)))::((.s (.o (.int .i64)))::(ru2 25 ((.s (.o (.lit .i64 0)))::((.s (.o .unk))::((.s (.o (.ptr 2 0 0 0)))::((.s (.o .nil))::((.s (.o (.ptr 3 0 0 0)))::((.s (.o (.ptr 4 0 0 0)))::(ru2 31 []))))))))))))))))))))),[⟨0,1,true,(some [[(.c 4 (nL tP))]])⟩,⟨0,4,true,(some [[(.o (.int .i64)),(.o (.int .i64)),(.o (.int .i64)),(.o (.int .i64))]])⟩,⟨0,1,true,(some [[(.c 4 (nL tP))]])⟩,⟨0,0,true,(some [[(.o (.sl 5 0 (some 0) none))]])⟩,⟨0,0,true,(some [[(.o (.ptr 6 0 0 0))]])⟩,⟨54,4,true,none⟩,⟨174,0,true,none⟩],fun a H=>(⟨(toI (slT a 3)),(toI (slT a 10)),(toI (slT a 11)),(toN (slT a 19)),(toG (slT a 19)),(toI (slT a 20)),(toI (slT (rwT (elT H 1) 0) 0)),(toI (slT (rwT (elT H 1) 0) 1)),(toI (slT (rwT (elT H 1) 0) 2)),(toI (slT (rwT (elT H 1) 0) 3))⟩,⟨1,(rL tP (slT a 9)),(toI (slT a 21)),(rL tP (slT (rwT (elT H 0) 0) 0)),(rL tP (slT (rwT (elT H 2) 0) 0)),(slN (slT (rwT (elT H 3) 0) 0)),(elT H 5),(elT H 6)⟩)⟩],r6,[(some 2,fun p s=>⟨(.unk::((.ptr 0 0 0 0)::(.unk::((i p.is3)::((.ptr 1 0 0 0)::(ra 4 ((eL tP s.M7)::((i p.Ka8)::((i p.R9)::(ra 7 ((.tree 4 p.bc3 p.Ya1)::((i p.ca6)::((i s.da2)::((b (decide (s.da2 < p.ca6)))::(ra 24 ((i 0)::(.unk::((.ptr 2 0 0 0)::((.v (.slice none 0 0))::((.ptr 3 0 0 0)::((.ptr 4 0 0 0)::(ra 31 [])))))))))))))))))))))),[⟨0,1,[[(eL tP s.d7)]],true,false,0⟩,⟨0,4,[[(i p.F9),(i p.G0),(i p.G1),(i p.G2)]],true,false,0⟩,⟨0,1,[[(eL tP s.O2)]],true,false,0⟩,⟨0,0,[[(.v (.slice none 0 0))]],true,false,0⟩,⟨0,0,[[(.ptr 5 0 0 0)]],true,false,0⟩,⟨174,0,[],true,false,0⟩]⟩),(some 2,fun p s=>⟨(.unk::((.ptr 0 0 0 0)::(.unk::((i p.is3)::((.ptr 1 0 0 0)::(ra 4 ((eL tP s.M7)::((i p.Ka8)::((i p.R9)::(ra 7 ((.tree 4 p.bc3 p.Ya1)::((i p.ca6)::((i s.da2)::((b (decide (s.da2 < p.ca6)))::(ra 24 ((i 0)::(.unk::((.ptr 2 0 0 0)::((.v (.slice none 0 0))::((.ptr 3 0 0 0)::((.ptr 4 0 0 0)::(ra 31 [])))))))))))))))))))))),[⟨0,1,[[(eL tP s.d7)]],true,false,0⟩,⟨0,4,[[(i p.F9),(i p.G0),(i p.G1),(i p.G2)]],true,false,0⟩,⟨0,1,[[(eL tP s.O2)]],true,false,0⟩,⟨0,0,[[(.sl 5 0 s.bc4 0)]],true,false,0⟩,⟨0,0,[[(.ptr 6 0 0 0)]],true,false,0⟩,⟨54,4,s.eh5,true,false,0⟩,⟨174,0,s.eh6,true,false,0⟩]⟩)],lb3⟩
theorem lb4:ja8.OkM:=Lo.okM [ja7.prM] (by kernel_rfl) (.cons lb2 .nil) rfl (.cons (fun a H=>by kernel_rfl) (.cons (fun a H=>by kernel_rfl) .nil)) fun p s=>(.sel (Nat.beq s.ph 1) (.of @v7 (fun F _ _ _ _ _=>by unfold v7;(repeat' apply l7 (f:=F))<;>rfl) (by kernel_rfl)) (.of @u9 (fun F _ _ _ _ _=>by unfold u9;(repeat' apply l7 (f:=F))<;>rfl) (by kernel_rfl)))
structure o6 where
 Ka8:Int
structure k8 where
 ph:Nat
 M7:List Pln
 R9:Int
 d7:List Pln
 Fa0:List Pln
 qc9:Nat
 eh4:List (List b7)
 eh5:List (List b7)
noncomputable def fb4 (p:o6) (s:k8):St:=⟨(.unk::((.ptr 0 0 0 0)::(ra 7 ((eL tP s.M7)::((i p.Ka8)::((i s.R9)::(ra 35 ((i 0)::(.unk::((.ptr 1 0 0 0)::((.v (.slice none 0 0))::((.ptr 2 0 0 0)::((.ptr 3 0 0 0)::(ra 31 [])))))))))))))),[⟨0,1,[[(eL tP s.d7)]],true,false,0⟩,⟨0,1,[[(eL tP s.Fa0)]],true,false,0⟩,⟨0,0,[[(.v (.slice none 0 0))]],true,false,0⟩,⟨0,0,[[(.ptr 4 0 0 0)]],true,false,0⟩,⟨174,0,[],true,false,0⟩]⟩
noncomputable def fb5 (p:o6) (s:k8):St:=⟨(.unk::((.ptr 0 0 0 0)::(ra 7 ((eL tP s.M7)::((i p.Ka8)::((i s.R9)::(ra 35 ((i 0)::(.unk::((.ptr 1 0 0 0)::((.v (.slice none 0 0))::((.ptr 2 0 0 0)::((.ptr 3 0 0 0)::(ra 31 [])))))))))))))),[⟨0,1,[[(eL tP s.d7)]],true,false,0⟩,⟨0,1,[[(eL tP s.Fa0)]],true,false,0⟩,⟨0,0,[[(.sl 4 0 s.qc9 0)]],true,false,0⟩,⟨0,0,[[(.ptr 5 0 0 0)]],true,false,0⟩,⟨54,4,s.eh4,true,false,0⟩,⟨174,0,s.eh5,true,false,0⟩]⟩
noncomputable def lb5 (p:o6) (s:k8):St:=(sel (Nat.beq s.ph 1) (fb5 p s) (fb4 p s))
noncomputable def v8 {α:Type} (k:k8→α) (e:Nat→α) (z:α) (p:o6) (s:k8):α:=let t1:=(lp (r6 (⟨s.R9,p.Ka8,s.R9,((List.length s.d7) - (W (s.R9+1)).toNat),(fun k=>(fun k=>(tP).row (gL tP s.d7 k)) ((W (s.R9+1)).toNat+k)),(↑((List.length s.d7) - (W (s.R9+1)).toNat):Int),(gL tP s.M7 s.R9.toNat).n.x,(gL tP s.M7 s.R9.toNat).n.y,(gL tP s.M7 s.R9.toNat).n.z,(gL tP s.M7 s.R9.toNat).b⟩:i4)) (⟨0,(rt tP s.M7),0,(rt tP s.d7),(rt tP s.Fa0),0,[],[]⟩:i8));(sl (decide (s.R9 < p.Ka8)) (sl (inB s.R9 (List.length s.M7)) (sl (inB (W (s.R9+1)) ((List.length s.d7)+1)) (sl ((cnE tP s.M7)&&((cnE tP s.d7)&&((cnE tP s.Fa0)&&true))) (sl (Nat.beq t1.1 1) (k ⟨0,t1.2.M7,(W (s.R9+1)),t1.2.d7,t1.2.O2,0,[],[]⟩) (sl (Nat.beq t1.1 2) (k ⟨1,t1.2.M7,(W (s.R9+1)),t1.2.d7,t1.2.O2,t1.2.bc4,t1.2.eh5,t1.2.eh6⟩) z)) z) z) z) (e 1))
noncomputable def w4 {α:Type} (k:k8→α) (e:Nat→α) (z:α) (p:o6) (s:k8):α:=let t1:=(lp (r6 (⟨s.R9,p.Ka8,s.R9,((List.length s.d7) - (W (s.R9+1)).toNat),(fun k=>(fun k=>(tP).row (gL tP s.d7 k)) ((W (s.R9+1)).toNat+k)),(↑((List.length s.d7) - (W (s.R9+1)).toNat):Int),(gL tP s.M7 s.R9.toNat).n.x,(gL tP s.M7 s.R9.toNat).n.y,(gL tP s.M7 s.R9.toNat).n.z,(gL tP s.M7 s.R9.toNat).b⟩:i4)) (⟨1,(rt tP s.M7),0,(rt tP s.d7),(rt tP s.Fa0),s.qc9,s.eh4,s.eh5⟩:i8));(sl (decide (s.R9 < p.Ka8)) (sl (inB s.R9 (List.length s.M7)) (sl (inB (W (s.R9+1)) ((List.length s.d7)+1)) (sl ((cnE tP s.M7)&&((cnE tP s.d7)&&((cnE tP s.Fa0)&&true))) (sl (Nat.beq t1.1 1) (k ⟨0,t1.2.M7,(W (s.R9+1)),t1.2.d7,t1.2.O2,0,[],[]⟩) (sl (Nat.beq t1.1 2) (k ⟨1,t1.2.M7,(W (s.R9+1)),t1.2.d7,t1.2.O2,t1.2.bc4,t1.2.eh5,t1.2.eh6⟩) z)) z) z) z) (e 2))
noncomputable def r7 (p:o6) (s:k8):Stp k8:=(sel (Nat.beq s.ph 1) (w4 .next .exit .fail p s) (v8 .next .exit .fail p s))
noncomputable def ja9:Lo o6 k8:=⟨En Y5,0,Xd1,[1,1,1,0,1,4,4,1,4,4],[1,9,10,11,47,49,50,51,52],(.s .p (.s .p (.s (.b (.s .p (.s .p (.b (.u ja8.lsM))))) .p))),[⟨((.s (.o .unk))::((.s (.o (.ptr 0 0 0 0)))::(ru2 7 ((.s (.c 4 (nL tP)))::((.s (.o (.int .i64)))::((.s (.o (.int .i64)))::(ru2 35 ((.s (.o (.lit .i64 0)))::((.s (.o .unk))::((.s (.o (.ptr 1 0 0 0)))::((.s (.o .nil))::((.s (.o (.ptr 2 0 0 0)))::((.s (.o (.ptr 3 0 0 0)))::(ru2 31 [])))))))))))))),[⟨0,1,true,(some [[(.c 4 (nL tP))]])⟩,⟨0,1,true,(some [[(.c 4 (nL tP))]])⟩,⟨0,0,true,(some [[(.o .nil)]])⟩,⟨0,0,true,(some [[(.o (.ptr 4 0 0 0))]])⟩,⟨174,0,true,(some [])⟩],fun a H=>(⟨(toI (slT a 10))⟩,⟨0,(rL tP (slT a 9)),(toI (slT a 11)),(rL tP (slT (rwT (elT H 0) 0) 0)),(rL tP (slT (rwT (elT H 1) 0) 0)),0,[],[]⟩)⟩,⟨((.s (.o .unk))::((.s (.o (.ptr 0 0 0 0)))::(ru2 7 ((.s (.c 4 (nL tP)))::((.s (.o (.int .i64)))::((.s (.o (.int .i64)))::(ru2 35 ((.s (.o (.lit .i64 0)))::((.s (.o .unk))::((.s (.o (.ptr 1 0 0 0)))::((.s (.o .nil))::((.s (.o (.ptr 2 0 0 0)))::((.s (.o (.ptr 3 0 0 0)))::(ru2 31 [])))))))))))))),[⟨0,1,true,(some [[(.c 4 (nL tP))]])⟩,⟨0,1,true,(some [[(.c 4 (nL tP))]])⟩,⟨0,0,true,(some [[(.o (.sl 4 0 (some 0) none))]])⟩,⟨0,0,true,(some [[(.o (.ptr 5 0 0 0))]])⟩,⟨54,4,true,none⟩,⟨174,0,true,none⟩],fun a H=>(⟨(toI (slT a 10))⟩,⟨1,(rL tP (slT a 9)),(toI (slT a 11)),(rL tP (slT (rwT (elT H 0) 0) 0)),(rL tP (slT (rwT (elT H 1) 0) 0)),(slN (slT (rwT (elT H 2) 0) 0)),(elT H 4),(elT H 5)⟩)⟩],r7,[(some 0,fun p s=>⟨(.unk::((.ptr 0 0 0 0)::(ra 7 ((eL tP s.M7)::((i p.Ka8)::((i s.R9)::((b (decide (s.R9 < p.Ka8)))::(ra 34 ((i 0)::(.unk::((.ptr 1 0 0 0)::((.v (.slice none 0 0))::((.ptr 2 0 0 0)::((.ptr 3 0 0 0)::(ra 31 []))))))))))))))),[⟨0,1,[[(eL tP s.d7)]],true,false,0⟩,⟨0,1,[[(eL tP s.Fa0)]],true,false,0⟩,⟨0,0,[[(.v (.slice none 0 0))]],true,false,0⟩,⟨0,0,[[(.ptr 4 0 0 0)]],true,false,0⟩,⟨174,0,[],true,false,0⟩]⟩),(some 0,fun p s=>⟨(.unk::((.ptr 0 0 0 0)::(ra 7 ((eL tP s.M7)::((i p.Ka8)::((i s.R9)::((b (decide (s.R9 < p.Ka8)))::(ra 34 ((i 0)::(.unk::((.ptr 1 0 0 0)::((.v (.slice none 0 0))::((.ptr 2 0 0 0)::((.ptr 3 0 0 0)::(ra 31 []))))))))))))))),[⟨0,1,[[(eL tP s.d7)]],true,false,0⟩,⟨0,1,[[(eL tP s.Fa0)]],true,false,0⟩,⟨0,0,[[(.sl 4 0 s.qc9 0)]],true,false,0⟩,⟨0,0,[[(.ptr 5 0 0 0)]],true,false,0⟩,⟨54,4,s.eh4,true,false,0⟩,⟨174,0,s.eh5,true,false,0⟩]⟩)],lb5⟩
theorem lb6:ja9.OkM:=Lo.okM [ja8.prM] (by kernel_rfl) (.cons lb4 .nil) rfl (.cons (fun a H=>by kernel_rfl) (.cons (fun a H=>by kernel_rfl) .nil)) fun p s=>(.sel (Nat.beq s.ph 1) (.of @w4 (fun F _ _ _ _ _=>by unfold w4;(repeat' apply l7 (f:=F))<;>rfl) (by kernel_rfl)) (.of @v8 (fun F _ _ _ _ _=>by unfold v8;(repeat' apply l7 (f:=F))<;>rfl) (by kernel_rfl)))
noncomputable def R3 (x:List Pln):Option (b7×List b8):=let t1:=(lp (r7 (⟨(↑(List.length x):Int)⟩:o6)) (⟨0,(rt tP x),0,(rt tP x),(rt tP x),0,[],[]⟩:k8));(sl ((cnE tP x)&&((cnE tP x)&&((cnE tP x)&&true))) (sl (Nat.beq t1.1 1) (some ((.v (.slice none 0 0)),[])) (sl (Nat.beq t1.1 2) (some ((.sl 0 0 t1.2.qc9 0),[⟨54,4,t1.2.eh4,true,false,0⟩])) none)) none)
noncomputable def R4 (x:List Pln):List Pt:=I5 (one (r1L tX)) (R3 x)
noncomputable def R5 (x:List Pln):Bool:=okO (one (r1L tX)) (R3 x)
noncomputable def qa8:Sum:=da3 (V2 tP) (fun x=>.guard (R5 x) (.ret ((one (r1L tX)).enc (R4 x),[])))
theorem Ha3:g7 prog G 89 qa8:=wa2 (bd b89 pb7) (one (r1L tX)) (o:=R3) fun x=>fe3 (.s .p (.s .p (.s .p (.s (.s .p (.b (.i (.s .p (.b (.u ja9.lsM)))))) .p)))) [ja9.prM] (by kernel_rfl) (.cons lb6 .nil) (by kernel_rfl)
end Go.Ev.Ce
end
section
namespace Go.Ev.Ce
open Go Go.Ev Go.Ev.L Go.Proofs
set_option maxRecDepth 100000
noncomputable def xb9:List (Nat×Sum):=[]
theorem fc3:j7 prog G xb9:=trivial
structure ka0 where
 is0:Int
 od2:List Int
 is8:Int
structure G9 where
 is9:Int
noncomputable def Xb8 (p:ka0) (s:G9):St:=⟨((i p.is0)::(ra 6 ((eL tI p.od2)::((i p.is8)::((i s.is9)::(ra 13 [])))))),[]⟩
noncomputable def ba2 {α:Type} (k:G9→α) (e:Nat→α) (z:α) (p:ka0) (s:G9):α:=(sl (decide (s.is9 < p.is8)) (sl (inB s.is9 (List.length p.od2)) (sl (decide ((gL tI p.od2 s.is9.toNat) < (W (0 - p.is0)))) (e 1) (sl (decide ((gL tI p.od2 s.is9.toNat) > p.is0)) (e 1) (k ⟨(W (s.is9+1))⟩))) z) (e 2))
noncomputable def fa2 (p:ka0) (s:G9):Stp G9:=ba2 .next .exit .fail p s
noncomputable def Ma0:Lo ka0 G9:=⟨En xb9,0,ee0,[1,0,1,4,4],[0,7,8,9],.p,[⟨((.s (.o (.int .i64)))::(ru2 6 ((.s (.c 1 (nL tI)))::((.s (.o (.int .i64)))::((.s (.o (.int .i64)))::(ru2 13 [])))))),[],fun a H=>(⟨(toI (slT a 0)),(rL tI (slT a 7)),(toI (slT a 8))⟩,⟨(toI (slT a 9))⟩)⟩],fa2,[(none,fun p s=>⟨[(b false)],[]⟩),(some 0,fun p s=>⟨((i p.is0)::(ra 6 ((eL tI p.od2)::((i p.is8)::((i s.is9)::((b (decide (s.is9 < p.is8)))::(ra 12 []))))))),[]⟩)],Xb8⟩
theorem Xb9:Ma0.Ok:=Lo.ok [] (by kernel_rfl) .nil rfl (.cons (fun a H=>by kernel_rfl) .nil) fun p s=>(.of @ba2 (fun F _ _ _ _ _=>by unfold ba2;(repeat' apply l7 (f:=F))<;>rfl) (by kernel_rfl))
noncomputable def ta2 (x:Int) (y:List Int):Option (b7×List b8):=let t1:=(lp (fa2 (⟨x,(rt tI y),(↑(List.length y):Int)⟩:ka0)) (⟨0⟩:G9));(sl ((cnE tI y)&&true) (sl (Nat.beq t1.1 1) (some ((b false),[])) (sl (Nat.beq t1.1 2) (some ((b true),[])) none)) none)
noncomputable def ka1 (x:Int) (y:List Int):Bool:=I5 (one r1B) (ta2 x y)
noncomputable def ka2 (x:Int) (y:List Int):Bool:=okO (one r1B) (ta2 x y)
noncomputable def cb1:Sum:=ja0 cI (V2 tI) (fun x y=>.guard (ka2 x y) (.ret ((one r1B).enc (ka1 x y),[])))
theorem yb0:g7 prog G 164 cb1:=eb7 (bd Ce4 fc3) (one r1B) (o:=ta2) fun x y=>ya4 (.s .p (.s (.s .p (.b (.u Ma0.ls))) .p)) [Ma0.pr] (by kernel_rfl) (.cons Xb9 .nil) (by kernel_rfl)
noncomputable def Yb0:List (Nat×Sum):=[]
theorem Qb6:j7 prog G Yb0:=trivial
noncomputable def wa5 (x:Int):Int:=(if (W (0 - x)) > x then (W (0 - x)) else x)
noncomputable def pb8:Sum:=da3 cI (fun x=>.ret ((one r1I).enc (wa5 x),[]))
theorem Yb1:g7 prog G 214 pb8:=Vb2 (bd Ee7 Qb6) fun x=>r4 (by kernel_rfl)
noncomputable def Ma1:List (Nat×Sum):=[(214,pb8)]
theorem Yb2:j7 prog G Ma1:=⟨Yb1,trivial⟩
structure V8 where
 ya0:List Int
 is7:Int
 is8:Int
structure I1 where
 is3:Int
 is5:Int
noncomputable def Qb7 (p:V8) (s:I1):St:=⟨(ra 3 ((i s.is3)::(.unk::((i s.is5)::((eL tI p.ya0)::((i p.is7)::((i p.is8)::(ra 15 [])))))))),[]⟩
noncomputable def X7 {α:Type} (k:I1→α) (e:Nat→α) (z:α) (p:V8) (s:I1):α:=(sl (decide (s.is5 > 0)) (sl (s.is5==0) z (k ⟨s.is5,(Int.tmod s.is3 s.is5)⟩)) (e 1))
noncomputable def R8 (p:V8) (s:I1):Stp I1:=X7 .next .exit .fail p s
noncomputable def Ha4:Lo V8 I1:=⟨En Ma1,0,Nd1,[1,1,0,1,4,4,1,1,0,4,1,1,1,4,4],[3,5,6,7,8],.p,[⟨(ru2 3 ((.s (.o (.int .i64)))::((.s (.o .unk))::((.s (.o (.int .i64)))::((.s (.c 1 (nL tI)))::((.s (.o (.int .i64)))::((.s (.o (.int .i64)))::(ru2 15 [])))))))),[],fun a H=>(⟨(rL tI (slT a 6)),(toI (slT a 7)),(toI (slT a 8))⟩,⟨(toI (slT a 3)),(toI (slT a 5))⟩)⟩],R8,[(some 2,fun p s=>⟨(ra 3 ((i s.is3)::(.unk::((i s.is5)::((eL tI p.ya0)::((i p.is7)::((i p.is8)::(ra 7 ((i s.is5)::((b (decide (s.is5 > 0)))::(ra 6 []))))))))))),[]⟩)],Qb7⟩
theorem Qb8:Ha4.Ok:=Lo.ok [] (by kernel_rfl) .nil rfl (.cons (fun a H=>by kernel_rfl) .nil) fun p s=>(.of @X7 (fun F _ _ _ _ _=>by unfold X7;(repeat' apply l7 (f:=F))<;>rfl) (by kernel_rfl))
structure fa3 where
 is7:Int
structure E6 where
 is3:Int
 ya0:List Int
 is8:Int
noncomputable def Qb9 (p:fa3) (s:E6):St:=⟨(ra 3 ((i s.is3)::(.unk::(.unk::((eL tI s.ya0)::((i p.is7)::((i s.is8)::(ra 15 [])))))))),[]⟩
noncomputable def X8 {α:Type} (k:E6→α) (e:Nat→α) (z:α) (p:fa3) (s:E6):α:=let t1:=(wa5 (gL tI s.ya0 s.is8.toNat));let t2:=(lp (R8 (⟨(rt tI s.ya0),p.is7,s.is8⟩:V8)) (⟨s.is3,t1⟩:I1));(sl (decide (s.is8 < p.is7)) (sl (inB s.is8 (List.length s.ya0)) (sl ((gL tI s.ya0 s.is8.toNat)==(-9223372036854775808)) (e 1) (sl ((cnE tI s.ya0)&&true) (sl (Nat.beq t2.1 1) (k ⟨t2.2.is3,(rt tI s.ya0),(W (s.is8+1))⟩) z) z)) z) (e 2))
noncomputable def ba3 (p:fa3) (s:E6):Stp E6:=X8 .next .exit .fail p s
noncomputable def Ha5:Lo fa3 E6:=⟨En Ma1,0,Nd1,[1,1,0,1,4,4],[3,6,7,8],(.s .p (.s .p (.s (.b (.s .p (.s .p (.s .p (.b (.u Ha4.ls)))))) .p))),[⟨(ru2 3 ((.s (.o (.int .i64)))::((.s (.o .unk))::((.s (.o .unk))::((.s (.c 1 (nL tI)))::((.s (.o (.int .i64)))::((.s (.o (.int .i64)))::(ru2 15 [])))))))),[],fun a H=>(⟨(toI (slT a 7))⟩,⟨(toI (slT a 3)),(rL tI (slT a 6)),(toI (slT a 8))⟩)⟩],ba3,[(none,fun p s=>⟨[(i 0)],[]⟩),(some 0,fun p s=>⟨(ra 3 ((i s.is3)::(.unk::(.unk::((eL tI s.ya0)::((i p.is7)::((i s.is8)::((b (decide (s.is8 < p.is7)))::(ra 14 []))))))))),[]⟩)],Qb9⟩
theorem Rb0:Ha5.Ok:=Lo.ok [Ha4.pr] (by kernel_rfl) (.cons Qb8 .nil) rfl (.cons (fun a H=>by kernel_rfl) .nil) fun p s=>(.of @X8 (fun F _ _ _ _ _=>by unfold X8;(repeat' apply l7 (f:=F))<;>rfl) (by kernel_rfl))
noncomputable def na7 (x:List Int):Option (b7×List b8):=let t1:=(lp (ba3 (⟨(↑(List.length x):Int)⟩:fa3)) (⟨0,(rt tI x),0⟩:E6));(sl ((cnE tI x)&&true) (sl (Nat.beq t1.1 1) (some ((i 0),[])) (sl (Nat.beq t1.1 2) (some ((i t1.2.is3),[])) none)) none)
noncomputable def Ba9 (x:List Int):Int:=I5 (one r1I) (na7 x)
noncomputable def Ca0 (x:List Int):Bool:=okO (one r1I) (na7 x)
noncomputable def yb1:Sum:=da3 (V2 tI) (fun x=>.guard (Ca0 x) (.ret ((one r1I).enc (Ba9 x),[])))
theorem fc4:g7 prog G 165 yb1:=wa2 (bd Ce5 Yb2) (one r1I) (o:=na7) fun x=>ya4 (.s .p (.s .p (.s (.s .p (.b (.u Ha5.ls))) .p))) [Ha5.pr] (by kernel_rfl) (.cons Rb0 .nil) (by kernel_rfl)
noncomputable def xc9:List (Nat×Sum):=[(164,cb1),(165,yb1)]
theorem mc9:j7 prog G xc9:=⟨yb0,fc4,trivial⟩
noncomputable def Aa0 (x:Pln):Option (b7×List b8):=let t1:=(ka1 4608 [x.n.x,x.n.y,x.n.z]);let t2:=(Ba9 [x.n.x,x.n.y,x.n.z]);let t3:=(ka1 2097152 [x.b]);(sl (ka2 4608 [x.n.x,x.n.y,x.n.z]) (sl t1 (sl (Ca0 [x.n.x,x.n.y,x.n.z]) (sl (t2==1) (sl (ka2 2097152 [x.b]) (some ((b t3),[])) none) (some ((b false),[]))) none) (some ((b false),[]))) none)
noncomputable def Na8 (x:Pln):Bool:=I5 (one r1B) (Aa0 x)
noncomputable def Na9 (x:Pln):Bool:=okO (one r1B) (Aa0 x)
noncomputable def Nb0:Sum:=da3 (R2 tP) (fun x=>.guard (Na9 x) (.ret ((one r1B).enc (Na8 x),[])))
theorem yc0:g7 prog G 85 Nb0:=wa2 (bd b85 mc9) (one r1B) (o:=Aa0) fun x=>r4 (by kernel_rfl)
noncomputable def nc0:List (Nat×Sum):=[(85,Nb0)]
theorem fc5:j7 prog G nc0:=⟨yc0,trivial⟩
noncomputable def ta3 (x:Pln):Option (b7×List b8):=let t1:=(Na8 x);(sl (Na9 x) (some ((b (!t1)),[])) none)
noncomputable def Ha6 (x:Pln):Bool:=I5 (one r1B) (ta3 x)
noncomputable def Ha7 (x:Pln):Bool:=okO (one r1B) (ta3 x)
noncomputable def Eb8:Sum:=da3 (R2 tP) (fun x=>.guard (Ha7 x) (.ret ((one r1B).enc (Ha6 x),[])))
theorem nc1:g7 prog G 84 Eb8:=wa2 (bd b84 fc5) (one r1B) (o:=ta3) fun x=>r4 (by kernel_rfl)
structure P4 where
 c8:List Pln
noncomputable def ta4:List (Nat×Sum):=[(84,Eb8)]
theorem Wa8:j7 prog G ta4:=⟨nc1,trivial⟩
structure E7 where
 c8:List Pln
 is7:Int
structure n3 where
 is8:Int
noncomputable def Ta7 (p:E7) (s:n3):St:=⟨((eL tP p.c8)::((.fn 84 [])::(ra 5 ((i p.is7)::((i s.is8)::(ra 10 [])))))),[]⟩
noncomputable def A8 {α:Type} (k:n3→α) (e:Nat→α) (z:α) (p:E7) (s:n3):α:=let t1:=(Ha6 (gL tP p.c8 s.is8.toNat));(sl (decide (s.is8 < p.is7)) (sl (inB s.is8 (List.length p.c8)) (sl (Ha7 (gL tP p.c8 s.is8.toNat)) (sl t1 (e 1) (k ⟨(W (s.is8+1))⟩)) z) z) (e 2))
noncomputable def D2 (p:E7) (s:n3):Stp n3:=A8 .next .exit .fail p s
noncomputable def Y6:Lo E7 n3:=⟨En ta4,0,yd6,[1,0,1,4,4],[0,1,7,8],.p,[⟨((.s (.c 4 (nL tP)))::((.s (.o (.fn 84)))::(ru2 5 ((.s (.o (.int .i64)))::((.s (.o (.int .i64)))::(ru2 10 [])))))),[],fun a H=>(⟨(rL tP (slT a 0)),(toI (slT a 7))⟩,⟨(toI (slT a 8))⟩)⟩],D2,[(none,fun p s=>⟨[(i s.is8)],[]⟩),(some 0,fun p s=>⟨((eL tP p.c8)::((.fn 84 [])::(ra 5 ((i p.is7)::((i s.is8)::((b (decide (s.is8 < p.is7)))::(ra 9 []))))))),[]⟩)],Ta7⟩
theorem Ta8:Y6.Ok:=Lo.ok [] (by kernel_rfl) .nil rfl (.cons (fun a H=>by kernel_rfl) .nil) fun p s=>(.of @A8 (fun F _ _ _ _ _=>by unfold A8;(repeat' apply l7 (f:=F))<;>rfl) (by kernel_rfl))
structure P5 where
 alt:Nat
 is0:Int
noncomputable def B6 {α:Type} (kk:P5→α) (x:P4):α:=let t1:=(lp (D2 (⟨(rt tP x.c8),(↑(List.length x.c8):Int)⟩:E7)) (⟨0⟩:n3));(sl ((cnE tP x.c8)&&true) (sl (Nat.beq t1.1 1) (kk ⟨1,t1.2.is8⟩) (sl (Nat.beq t1.1 2) (kk ⟨1,(-1)⟩) (kk ⟨0,0⟩))) (kk ⟨0,0⟩))
noncomputable def da4 (x:P4):P5:=B6 (fun r=>r) x
noncomputable def ba4 (x:P4) (r:P5):DT (b7×List b8):=(.ite (Nat.beq r.alt 1) (.ret ((i r.is0),[])) .fail)
theorem fb6 {α β:Type} (F:α→β) (kk:P5→α) (x:P4):F (B6 kk x)=B6 (fun r=>F (kk r)) x:=by unfold B6;(repeat' apply l7 (f:=F))<;>rfl
noncomputable def xa3:Sum:=ab2 ⟨[(.s (.c 4 (nL tP))),(.s (.o (.fn 84)))],[],fun a H=>(⟨(rL tP (slT a 0))⟩,())⟩ (fun x=>ba4 x (da4 x))
theorem cb2:g7 prog G 163 xa3:=O8 (enc:=fun x=>⟨[(eL tP x.c8),(.fn 84 [])],[]⟩) (fun a H=>by kernel_rfl) (bd ke1 Wa8) fun x=>ya4 (.s .p (.s (.s .p (.b (.u Y6.ls))) .p)) [Y6.pr] (by kernel_rfl) (.cons Ta8 .nil) (Eq.trans (b:=B6 (fun r=>(ba4 x r).run) x) (by kernel_rfl) (fb6 (fun r=>(ba4 x r).run) (fun r=>r) x).symm)
structure J6 where
 c8:List Pln
noncomputable def Qa1:List (Nat×Sum):=[(163,xa3)]
theorem Ma2:j7 prog G Qa1:=⟨cb2,trivial⟩
structure J7 where
 alt:Nat
 bs0:Bool
noncomputable def w9 {α:Type} (kk:J7→α) (x:J6):α:=let t1:=(da4 ⟨(rt tP x.c8)⟩);(sl ((cnE tP x.c8)&&true) (sl (Nat.beq t1.alt 1) (kk ⟨1,(decide (t1.is0≥0))⟩) (kk ⟨0,false⟩)) (kk ⟨0,false⟩))
noncomputable def W6 (x:J6):J7:=w9 (fun r=>r) x
noncomputable def U0 (x:J6) (r:J7):DT (b7×List b8):=(.ite (Nat.beq r.alt 1) (.ret ((b r.bs0),[])) .fail)
theorem Ta9 {α β:Type} (F:α→β) (kk:J7→α) (x:J6):F (w9 kk x)=w9 (fun r=>F (kk r)) x:=by unfold w9;(repeat' apply l7 (f:=F))<;>rfl
noncomputable def na8:Sum:=ab2 ⟨[(.s (.c 4 (nL tP))),(.s (.o (.fn 84)))],[],fun a H=>(⟨(rL tP (slT a 0))⟩,())⟩ (fun x=>U0 x (W6 x))
theorem Qa2:g7 prog G 83 na8:=O8 (enc:=fun x=>⟨[(eL tP x.c8),(.fn 84 [])],[]⟩) (fun a H=>by kernel_rfl) (bd b83 Ma2) fun x=>r4 (Eq.trans (b:=w9 (fun r=>(U0 x r).run) x) (by kernel_rfl) (Ta9 (fun r=>(U0 x r).run) (fun r=>r) x).symm)
noncomputable def Hc2:List (Nat×Sum):=[(83,na8)]
theorem yc1:j7 prog G Hc2:=⟨Qa2,trivial⟩
noncomputable def Ha8 (x:List Pln):Option (b7×List b8):=let t1:=(W6 ⟨(rt tP x)⟩);(sl (decide ((↑(List.length x):Int) > 48)) (some ((i 2),[])) (sl ((cnE tP x)&&true) (sl (Nat.beq t1.alt 1) (sl t1.bs0 (some ((i 12),[])) (some ((i 0),[]))) none) none))
noncomputable def wa6 (x:List Pln):Int:=I5 (one r1I) (Ha8 x)
noncomputable def wa7 (x:List Pln):Bool:=okO (one r1I) (Ha8 x)
noncomputable def Wa9:Sum:=da3 (V2 tP) (fun x=>.guard (wa7 x) (.ret ((one r1I).enc (wa6 x),[])))
theorem lb7:g7 prog G 15 Wa9:=wa2 (bd b15 yc1) (one r1I) (o:=Ha8) fun x=>r4 (by kernel_rfl)
noncomputable def nc2:List (Nat×Sum):=[(15,Wa9)]
theorem fc6:j7 prog G nc2:=⟨lb7,trivial⟩
noncomputable def ta5 (x:List Pln):Option (b7×List b8):=let t1:=(wa6 (rt tP x));(sl (okE tP x) (sl (wa7 (rt tP x)) (some ((b (t1 != 0)),[])) none) none)
noncomputable def Ha9 (x:List Pln):Bool:=I5 (one r1B) (ta5 x)
noncomputable def Ia0 (x:List Pln):Bool:=okO (one r1B) (ta5 x)
noncomputable def Eb9:Sum:=da3 (V2 tP) (fun x=>.guard (Ia0 x) (.ret ((one r1B).enc (Ha9 x),[])))
theorem nc3:g7 prog G 168 Eb9:=wa2 (bd Ce8 fc6) (one r1B) (o:=ta5) fun x=>r4 (by kernel_rfl)
end Go.Ev.Ce
end
namespace Go.Proofs
open Go.Shelf
set_option maxRecDepth 100000 in
def Ce.growP_ren:Go.Shelf.Ren:=⟨fun | 4=>216 | n=>n,fun | 22=>25 | 25=>50 | 3=>3 | 4=>4 | 9=>9 | 20=>20 | 0=>0 | n=>n,fun | n=>n⟩
set_option maxRecDepth 100000 in
theorem Ce.growP:Go.Proofs.Lays8.n4 Tryz.prog Ce.growP_ren:={
 mixed:=by kernel_rfl
 f4:=⟨Tryz.f216.name,by decide,Tryz.func216.trans (congrArg some (by kernel_rfl))⟩
 t0:=Tryz.underlying0
 a0:=Tryz.isAgg0
 z0:=Tryz.sizeOf0
 v0:=Tryz.zeroValue0
 t3:=Tryz.underlying3
 a3:=Tryz.isAgg3
 z3:=Tryz.sizeOf3
 v3:=Tryz.zeroValue3
 t4:=Tryz.underlying4
 a4:=Tryz.isAgg4
 z4:=Tryz.sizeOf4
 v4:=Tryz.zeroValue4
 t9:=Tryz.underlying9
 a9:=Tryz.isAgg9
 z9:=Tryz.sizeOf9
 v9:=Tryz.zeroValue9
 t20:=Tryz.underlying20
 a20:=Tryz.isAgg20
 z20:=Tryz.sizeOf20
 v20:=Tryz.zeroValue20
 t22:=Tryz.underlying25
 a22:=Tryz.isAgg25
 z22:=Tryz.sizeOf25
 v22:=Tryz.zeroValue25 }
end Go.Proofs
namespace Go.Ev.Ce
open Go Go.Ev Go.Proofs
noncomputable def Wc1:List b7:=[i 0,i 0,i 0,i 0]
noncomputable def ya5:Sum:=fun args blks=>match args,blks with
 | [.v (.slice none 0 0), .v (.int .i64 n)], [] => .ite (n == 0) (.ret (.v (.slice none 0 0), []))
   (.guard (Bool.and (decide (0 < n)) (Nat.ble (n.toNat*32) room)) (.ret (.sl 0 0 0 0,[⟨50,4,List.replicate n.toNat Wc1,true,false,0⟩])))
 | _,_=>.fail
theorem z50:zeT Tryz.prog 50=some Wc1:=by kernel_rfl
theorem s50:szT Tryz.prog 50=4:=by kernel_rfl
theorem y50:byT Tryz.prog 50=32:=by kernel_rfl
theorem t25:Ce.growP_ren.t 25=50:=by kernel_rfl
theorem f4:Ce.growP_ren.f 4=216:=by kernel_rfl
set_option maxRecDepth 100000 in
theorem Fb0:g7 prog G 216 ya5:=by
 intro args blks r out he W ρ F w args' hH hlen hargs hG
 refine⟨⟨_,Tryz.func216,by kernel_rfl,of_decide_eq_true (by kernel_rfl)⟩,?_⟩
 unfold ya5 at he
 split at he
 case h_2=>cases he
 rename_i n
 match args',hlen with
 | [v0,v1],_ =>
 have e0:=aa2 (hargs 0 _ _ rfl rfl)
 have e1:=aa2 (hargs 1 _ _ rfl rfl)
 subst e0 e1
 rcases DT.run_ite_some he with⟨h0,he⟩ | ⟨h0,he⟩
 ·have h0:n=0:=by simpa using h0
  subst h0
  injection he with he;injection he with q1 q2;subst q1 q2
  have:=Any8.slices_Grow_room Ce.growP none 0 0 0 w (Nat.le_refl _) (by omega) (by omega) (by omega)
  rw[f4] at this
  refine this.mono fun e w' ⟨h1,h2⟩=>?_
  subst h1 h2
  exact⟨_,rfl,ρ,F,.refl,hH,.ofv _⟩
 ·obtain⟨hg,he⟩:=DT.run_guard_some he
  rw[Bool.and_eq_true,decide_eq_true_eq] at hg
  obtain⟨hpos,hroom⟩:=hg
  have hroom:=Nat.le_of_ble_eq_true hroom
  unfold room at hroom
  obtain⟨m,rfl⟩:=Int.eq_ofNat_of_zero_le (Int.le_of_lt hpos)
  have hm:0 < m:=by omega
  have he:some (b7.sl 0 0 0 0,[(⟨50,4,List.replicate m Wc1,true,false,0⟩:b8)])=some (r,out):=he
  injection he with he;injection he with q1 q2;subst q1 q2
  obtain⟨ti,zv,hi,hzz,hzr,hone⟩:=La4 (E:=En []) z50
  have hi:Tryz.prog.info? 50=some ti:=hi
  have hts:ti.size=4:=by have:=s50;simp only[szT,hi] at this;exact this
  have hby:ti.bytes=32:=by have:=y50;simp only[byT,hi] at this;exact this
  have hzs:zv.cells.size=4:=by
   have:=congrArg List.length hzr
   simpa [Wc1] using this.symm
  have hroom':m*32≤140737488355328:=hroom
  have:=Any8.slices_Grow_grow Ce.growP ti zv (by rw[t25];exact hi) hzz (by omega) none 0 0 m [] w (Nat.le_refl _) (by omega) (by rw[hby];omega) (by omega) (by simp) (fun _=>rfl) (fun a ha=>by cases ha)
  rw[f4,t25] at this
  refine this.mono fun e w' ⟨h1,h2⟩=>?_
  have hcap:=grownCap_ge w (0+m) 0 50
  have hcap2:=grownCap_le_maxLen w (0+m) 0 50 (by unfold maxLen;omega)
  subst h1
  generalize grownCap w (0+m) 0 50=G' at *
  have hsz:∀ q,(Builtin.zeroCells zv.cells q).size=q*4:=fun q=>by simp[Builtin.zeroCells,hzs]
  have hcc:(#[]++Builtin.zeroCells zv.cells (0+m - 0)++Builtin.zeroCells zv.cells (G' - (0+m))).size=G'*4:=by
   rw[Array.size_append,Array.size_append,hsz,hsz]
   simp
   omega
  have hobj:w'.heap[w.heap.size]?=some (.cells (#[]++Builtin.zeroCells zv.cells (0+m - 0)++Builtin.zeroCells zv.cells (G' - (0+m))) 50 (0,0)):=by
   rw[h2]
   exact World.alloc_heap_new w.drew _
  have hold:∀ k,k < w.heap.size→w'.heap[k]?=w.heap[k]?:=fun k hk=>by
   rw[h2]
   simp only[World.alloc,Array.getElem?_push,World.drew]
   rw[if_neg (by omega)]
  have hws:w'.heap.size=w.heap.size+1:=by rw[h2];exact Array.size_push ..
  obtain⟨h6,h7⟩:=hH.newAt (w':=w') (by rw[h2];rfl) (by rw[h2];rfl) (by rw[h2];rfl) (by rw[h2];exact Nat.le_succ _) (by omega) hold w.heap.size (Nat.le_refl _) 50 4 (List.replicate m Wc1) _ 50 hobj
   (fun j r hr=>by rw[List.getElem?_replicate] at hr;split at hr<;>cases hr;rfl) (by rw[List.length_replicate,hcc];omega)
   (fun j r c x hr hx=>by
    have hjm:j < m:=by
     have:=(List.getElem?_eq_some_iff.1 hr).1
     simpa using this
    rw[List.getElem?_replicate,if_pos hjm] at hr
    injection hr with hr
    subst hr
    have hc4:c < 4:=(List.getElem?_eq_some_iff.1 hx).1
    rw[hzr,List.getElem?_map] at hx
    have hcz:c < zv.cells.size:=by omega
    have hq:zv.cells.toList[c]?=some zv.cells[c]:=by simp[hcz]
    rw[hq] at hx
    injection hx with hx
    subst hx
    refine⟨zv.cells[c],?_,.v _ (hone _ (by simp))⟩
    have hlt:j*4+c < m*4:=by omega
    rw[Array.append_assoc,Array.empty_append,Array.getElem?_append_left (by rw[hsz];omega)]
    have hm4:(j*4+c) % 4=c:=by omega
    simp only[Builtin.zeroCells,hzs]
    rw[Array.getElem?_map,Array.getElem?_range]
    rw[if_pos (by omega)]
    simp[hm4,hcz])
   (fun _=>rfl)
  refine⟨_,rfl,_,F,h6,h7,.val (.cell ?_)⟩
  refine .sl 0 0 0 0 _ _ { et:=50,es:=4,elems:=List.replicate m Wc1,own:=true,dead:=false,g:=0 } rfl rfl (Nat.le_refl _) (Nat.zero_le _) rfl hcap2 fun _=>⟨.inr ?_,?_,by simp⟩
  ·simp[ρnew]
  ·simp only[ρnew,List.length_nil,if_true]
   rw[hcc,Nat.zero_add]
end Go.Ev.Ce
