/- Own work: a part of the proof. -/
import Derived.Test.YtlccibobknidjaaGreatEvBd
import Derived.Test.YtlccibobknidjaaGreatChecked
import Derived.Test.YtlccibobknidjaaGreatEvCePf
import Derived.KernelRfl
import Derived.Test.YtlccibobknidjaaGreatEvSp3
import Derived.Test.YtlccibobknidjaaGreatEvMem
import Derived.Shelf.Spec.SlicesGrow
set_option linter.unusedVariables false
set_option linter.unusedSimpArgs false
set_option linter.unnecessarySimpa false
set_option linter.unusedSectionVars false
section
namespace Go.Ev.Ce
open Go Go.Ev Go.Proofs
set_option maxRecDepth 1000000
theorem mx:(Tryz.prog).follows .mixedOrders=true:=Checked.mixed Tryz.checked
theorem b3:r8 Tryz.prog 3 fun E=>l4 E pf3:=w7 mx Tryz.func3 (by kernel_rfl) (f7 (by kernel_rfl))
theorem b4:r8 Tryz.prog 4 fun E=>l4 E pf4:=w7 mx Tryz.func4 (by kernel_rfl) (f7 (by kernel_rfl))
theorem b5:r8 Tryz.prog 5 fun E=>l4 E pf5:=w7 mx Tryz.func5 (by kernel_rfl) (f7 (by kernel_rfl))
theorem b6:r8 Tryz.prog 6 fun E=>l4 E pf6:=w7 mx Tryz.func6 (by kernel_rfl) (f7 (by kernel_rfl))
theorem b13:r8 Tryz.prog 13 fun E=>l4 E Ie5:=w7 mx Tryz.func13 (by kernel_rfl) (f7 (by kernel_rfl))
theorem b15:r8 Tryz.prog 15 fun E=>l4 E Ie6:=w7 mx Tryz.func15 (by kernel_rfl) (f7 (by kernel_rfl))
theorem b16:r8 Tryz.prog 16 fun E=>l4 E Ae6:=w7 mx Tryz.func16 (by kernel_rfl) (f7 (by kernel_rfl))
theorem b17:r8 Tryz.prog 17 fun E=>l4 E Ae7:=w7 mx Tryz.func17 (by kernel_rfl) (f7 (by kernel_rfl))
theorem b18:r8 Tryz.prog 18 fun E=>l4 E Ie7:=w7 mx Tryz.func18 (by kernel_rfl) (f7 (by kernel_rfl))
theorem b20:r8 Tryz.prog 20 fun E=>l4 E Ie8:=w7 mx Tryz.func20 (by kernel_rfl) (f7 (by kernel_rfl))
theorem b21:r8 Tryz.prog 21 fun E=>l4 E Ie9:=w7 mx Tryz.func21 (by kernel_rfl) (f7 (by kernel_rfl))
theorem b22:r8 Tryz.prog 22 fun E=>l4 E Ae8:=w7 mx Tryz.func22 (by kernel_rfl) (f7 (by kernel_rfl))
theorem b25:r8 Tryz.prog 25 fun E=>l4 E Je0:=w7 mx Tryz.func25 (by kernel_rfl) (f7 (by kernel_rfl))
theorem b26:r8 Tryz.prog 26 fun E=>l4 E Ae9:=w7 mx Tryz.func26 (by kernel_rfl) (f7 (by kernel_rfl))
theorem b28:r8 Tryz.prog 28 fun E=>l4 E Je1:=w7 mx Tryz.func28 (by kernel_rfl) (f7 (by kernel_rfl))
theorem b30:r8 Tryz.prog 30 fun E=>l4 E Je2:=w7 mx Tryz.func30 (by kernel_rfl) (f7 (by kernel_rfl))
theorem b31:r8 Tryz.prog 31 fun E=>l4 E Je3:=w7 mx Tryz.func31 (by kernel_rfl) (f7 (by kernel_rfl))
theorem b33:r8 Tryz.prog 33 fun E=>l4 E Je4:=w7 mx Tryz.func33 (by kernel_rfl) (f7 (by kernel_rfl))
theorem b35:r8 Tryz.prog 35 fun E=>l4 E Je5:=w7 mx Tryz.func35 (by kernel_rfl) (f7 (by kernel_rfl))
theorem b36:r8 Tryz.prog 36 fun E=>l4 E Je6:=w7 mx Tryz.func36 (by kernel_rfl) (f7 (by kernel_rfl))
theorem b37:r8 Tryz.prog 37 fun E=>l4 E Je7:=w7 mx Tryz.func37 (by kernel_rfl) (f7 (by kernel_rfl))
theorem b46:r8 Tryz.prog 46 fun E=>l4 E Be0:=w7 mx Tryz.func46 (by kernel_rfl) (f7 (by kernel_rfl))
theorem b47:r8 Tryz.prog 47 fun E=>l4 E Je8:=w7 mx Tryz.func47 (by kernel_rfl) (f7 (by kernel_rfl))
theorem b54:r8 Tryz.prog 54 fun E=>l4 E Je9:=w7 mx Tryz.func54 (by kernel_rfl) (f7 (by kernel_rfl))
theorem b81:r8 Tryz.prog 81 fun E=>l4 E Ke0:=w7 mx Tryz.func81 (by kernel_rfl) (f7 (by kernel_rfl))
theorem b83:r8 Tryz.prog 83 fun E=>l4 E Ke1:=w7 mx Tryz.func83 (by kernel_rfl) (f7 (by kernel_rfl))
theorem b84:r8 Tryz.prog 84 fun E=>l4 E Ke2:=w7 mx Tryz.func84 (by kernel_rfl) (f7 (by kernel_rfl))
theorem b85:r8 Tryz.prog 85 fun E=>l4 E Ke3:=w7 mx Tryz.func85 (by kernel_rfl) (f7 (by kernel_rfl))
theorem b86:r8 Tryz.prog 86 fun E=>l4 E Ke4:=w7 mx Tryz.func86 (by kernel_rfl) (f7 (by kernel_rfl))
theorem b87:r8 Tryz.prog 87 fun E=>l4 E Ke5:=w7 mx Tryz.func87 (by kernel_rfl) (f7 (by kernel_rfl))
theorem b88:r8 Tryz.prog 88 fun E=>l4 E Ke6:=w7 mx Tryz.func88 (by kernel_rfl) (f7 (by kernel_rfl))
theorem b89:r8 Tryz.prog 89 fun E=>Cb9 E fe2:=me4 (h:=h89) mx Tryz.func89 (by kernel_rfl) Tryz.func217 (by kernel_rfl) (f7 (by kernel_rfl))
theorem b90:r8 Tryz.prog 90 fun E=>l4 E fe3:=w7 mx Tryz.func90 (by kernel_rfl) (f7 (by kernel_rfl))
theorem b91:r8 Tryz.prog 91 fun E=>l4 E Ke7:=w7 mx Tryz.func91 (by kernel_rfl) (f7 (by kernel_rfl))
theorem b92:r8 Tryz.prog 92 fun E=>l4 E Ke8:=w7 mx Tryz.func92 (by kernel_rfl) (f7 (by kernel_rfl))
theorem b93:r8 Tryz.prog 93 fun E=>l4 E se8:=w7 mx Tryz.func93 (by kernel_rfl) (f7 (by kernel_rfl))
theorem b94:r8 Tryz.prog 94 fun E=>l4 E Ke9:=w7 mx Tryz.func94 (by kernel_rfl) (f7 (by kernel_rfl))
theorem b95:r8 Tryz.prog 95 fun E=>l4 E Le0:=w7 mx Tryz.func95 (by kernel_rfl) (f7 (by kernel_rfl))
theorem b97:r8 Tryz.prog 97 fun E=>l4 E Le1:=w7 mx Tryz.func97 (by kernel_rfl) (f7 (by kernel_rfl))
theorem b98:r8 Tryz.prog 98 fun E=>l4 E Le2:=w7 mx Tryz.func98 (by kernel_rfl) (f7 (by kernel_rfl))
theorem b99:r8 Tryz.prog 99 fun E=>l4 E Be1:=w7 mx Tryz.func99 (by kernel_rfl) (f7 (by kernel_rfl))
theorem Le3:r8 Tryz.prog 100 fun E=>l4 E Be2:=w7 mx Tryz.func100 (by kernel_rfl) (f7 (by kernel_rfl))
theorem Le4:r8 Tryz.prog 101 fun E=>l4 E me5:=w7 mx Tryz.func101 (by kernel_rfl) (f7 (by kernel_rfl))
theorem Le5:r8 Tryz.prog 102 fun E=>l4 E Be3:=w7 mx Tryz.func102 (by kernel_rfl) (f7 (by kernel_rfl))
theorem Le6:r8 Tryz.prog 104 fun E=>l4 E Be4:=w7 mx Tryz.func104 (by kernel_rfl) (f7 (by kernel_rfl))
theorem Le7:r8 Tryz.prog 105 fun E=>l4 E Sd4:=w7 mx Tryz.func105 (by kernel_rfl) (f7 (by kernel_rfl))
theorem Le8:r8 Tryz.prog 107 fun E=>l4 E Be5:=w7 mx Tryz.func107 (by kernel_rfl) (f7 (by kernel_rfl))
theorem Le9:r8 Tryz.prog 108 fun E=>l4 E Be6:=w7 mx Tryz.func108 (by kernel_rfl) (f7 (by kernel_rfl))
theorem Me0:r8 Tryz.prog 109 fun E=>l4 E Be7:=w7 mx Tryz.func109 (by kernel_rfl) (f7 (by kernel_rfl))
theorem Me1:r8 Tryz.prog 110 fun E=>l4 E me6:=w7 mx Tryz.func110 (by kernel_rfl) (f7 (by kernel_rfl))
theorem Ee3:r8 Tryz.prog 111 fun E=>l4 E Be8:=w7 mx Tryz.func111 (by kernel_rfl) (f7 (by kernel_rfl))
theorem Me2:r8 Tryz.prog 112 fun E=>l4 E Bd6:=w7 mx Tryz.func112 (by kernel_rfl) (f7 (by kernel_rfl))
theorem Ee4:r8 Tryz.prog 113 fun E=>l4 E Be9:=w7 mx Tryz.func113 (by kernel_rfl) (f7 (by kernel_rfl))
theorem Me3:r8 Tryz.prog 114 fun E=>l4 E Ce0:=w7 mx Tryz.func114 (by kernel_rfl) (f7 (by kernel_rfl))
theorem Me4:r8 Tryz.prog 115 fun E=>l4 E Ce1:=w7 mx Tryz.func115 (by kernel_rfl) (f7 (by kernel_rfl))
theorem Me5:r8 Tryz.prog 116 fun E=>l4 E Ce2:=w7 mx Tryz.func116 (by kernel_rfl) (f7 (by kernel_rfl))
theorem Me6:r8 Tryz.prog 119 fun E=>l4 E Ce3:=w7 mx Tryz.func119 (by kernel_rfl) (f7 (by kernel_rfl))
theorem Me7:r8 Tryz.prog 124 fun E=>l4 E id9:=w7 mx Tryz.func124 (by kernel_rfl) (f7 (by kernel_rfl))
theorem Me8:r8 Tryz.prog 126 fun E=>l4 E Ce4:=w7 mx Tryz.func126 (by kernel_rfl) (f7 (by kernel_rfl))
theorem Me9:r8 Tryz.prog 129 fun E=>l4 E Ce5:=w7 mx Tryz.func129 (by kernel_rfl) (f7 (by kernel_rfl))
theorem Ne0:r8 Tryz.prog 130 fun E=>l4 E Ce6:=w7 mx Tryz.func130 (by kernel_rfl) (f7 (by kernel_rfl))
theorem Ne1:r8 Tryz.prog 142 fun E=>l4 E Ce7:=w7 mx Tryz.func142 (by kernel_rfl) (f7 (by kernel_rfl))
theorem Ne2:r8 Tryz.prog 157 fun E=>l4 E Ce8:=w7 mx Tryz.func157 (by kernel_rfl) (f7 (by kernel_rfl))
theorem se9:r8 Tryz.prog 163 fun E=>l4 E Bd7:=w7 mx Tryz.func163 (by kernel_rfl) (f7 (by kernel_rfl))
theorem Ne3:r8 Tryz.prog 164 fun E=>l4 E me7:=w7 mx Tryz.func164 (by kernel_rfl) (f7 (by kernel_rfl))
theorem Ne4:r8 Tryz.prog 165 fun E=>l4 E Sd5:=w7 mx Tryz.func165 (by kernel_rfl) (f7 (by kernel_rfl))
theorem Ne5:r8 Tryz.prog 166 fun E=>l4 E me8:=w7 mx Tryz.func166 (by kernel_rfl) (f7 (by kernel_rfl))
theorem Ne6:r8 Tryz.prog 167 fun E=>l4 E me9:=w7 mx Tryz.func167 (by kernel_rfl) (f7 (by kernel_rfl))
theorem Ne7:r8 Tryz.prog 168 fun E=>l4 E Ce9:=w7 mx Tryz.func168 (by kernel_rfl) (f7 (by kernel_rfl))
theorem Ne8:r8 Tryz.prog 169 fun E=>Cb9 E Sd6:=me4 (h:=Ae5) mx Tryz.func169 (by kernel_rfl) Tryz.func216 (by kernel_rfl) (f7 (by kernel_rfl))
theorem Ne9:r8 Tryz.prog 170 fun E=>l4 E ne0:=w7 mx Tryz.func170 (by kernel_rfl) (f7 (by kernel_rfl))
theorem Oe0:r8 Tryz.prog 171 fun E=>l4 E De0:=w7 mx Tryz.func171 (by kernel_rfl) (f7 (by kernel_rfl))
theorem Oe1:r8 Tryz.prog 172 fun E=>l4 E De1:=w7 mx Tryz.func172 (by kernel_rfl) (f7 (by kernel_rfl))
theorem Oe2:r8 Tryz.prog 173 fun E=>l4 E ne2:=w7 mx Tryz.func173 (by kernel_rfl) (f7 (by kernel_rfl))
theorem Oe3:r8 Tryz.prog 174 fun E=>l4 E De2:=w7 mx Tryz.func174 (by kernel_rfl) (f7 (by kernel_rfl))
theorem Oe4:r8 Tryz.prog 175 fun E=>l4 E De3:=w7 mx Tryz.func175 (by kernel_rfl) (f7 (by kernel_rfl))
theorem Oe5:r8 Tryz.prog 176 fun E=>l4 E De4:=w7 mx Tryz.func176 (by kernel_rfl) (f7 (by kernel_rfl))
theorem Oe6:r8 Tryz.prog 179 fun E=>l4 E De5:=w7 mx Tryz.func179 (by kernel_rfl) (f7 (by kernel_rfl))
theorem Oe7:r8 Tryz.prog 180 fun E=>l4 E ne3:=w7 mx Tryz.func180 (by kernel_rfl) (f7 (by kernel_rfl))
theorem Oe8:r8 Tryz.prog 181 fun E=>l4 E De6:=w7 mx Tryz.func181 (by kernel_rfl) (f7 (by kernel_rfl))
theorem Oe9:r8 Tryz.prog 182 fun E=>l4 E ne4:=w7 mx Tryz.func182 (by kernel_rfl) (f7 (by kernel_rfl))
theorem Pe0:r8 Tryz.prog 183 fun E=>l4 E ne5:=w7 mx Tryz.func183 (by kernel_rfl) (f7 (by kernel_rfl))
theorem Pe1:r8 Tryz.prog 184 fun E=>l4 E ne6:=w7 mx Tryz.func184 (by kernel_rfl) (f7 (by kernel_rfl))
theorem Ee5:r8 Tryz.prog 185 fun E=>l4 E Sd7:=w7 mx Tryz.func185 (by kernel_rfl) (f7 (by kernel_rfl))
theorem Pe2:r8 Tryz.prog 186 fun E=>l4 E De7:=w7 mx Tryz.func186 (by kernel_rfl) (f7 (by kernel_rfl))
theorem Pe3:r8 Tryz.prog 187 fun E=>l4 E De8:=w7 mx Tryz.func187 (by kernel_rfl) (f7 (by kernel_rfl))
theorem Pe4:r8 Tryz.prog 194 fun E=>l4 E De9:=w7 mx Tryz.func194 (by kernel_rfl) (f7 (by kernel_rfl))
theorem Pe5:r8 Tryz.prog 207 fun E=>l4 E ne7:=w7 mx Tryz.func207 (by kernel_rfl) (f7 (by kernel_rfl))
theorem Pe6:r8 Tryz.prog 214 fun E=>l4 E Ee0:=w7 mx Tryz.func214 (by kernel_rfl) (f7 (by kernel_rfl))
theorem Pe7:r8 Tryz.prog 215 fun E=>l4 E Ee1:=w7 mx Tryz.func215 (by kernel_rfl) (f7 (by kernel_rfl))
theorem Pe8:r8 Tryz.prog 217 fun E=>l4 E ne8:=w7 mx Tryz.func217 (by kernel_rfl) (f7 (by kernel_rfl))
theorem Pe9:r8 Tryz.prog 218 fun E=>l4 E Sd8:=w7 mx Tryz.func218 (by kernel_rfl) (f7 (by kernel_rfl))
theorem Qe0:r8 Tryz.prog 219 fun E=>l4 E Ee2:=w7 mx Tryz.func219 (by kernel_rfl) (f7 (by kernel_rfl))
theorem Qe1:r8 Tryz.prog 220 fun E=>l4 E ne9:=w7 mx Tryz.func220 (by kernel_rfl) (f7 (by kernel_rfl))
theorem Qe2:r8 Tryz.prog 221 fun E=>l4 E oe0:=w7 mx Tryz.func221 (by kernel_rfl) (f7 (by kernel_rfl))
end Go.Ev.Ce
end
namespace Go.Ev.L
open Go Go.Ev
noncomputable def Db3:RT→PC→PS2
 | .s a b,.seq x y=>.seq (Db3 a x) (Db3 b y)
 | .c a b,.cond g x y=>.cond g (Db3 a x) (Db3 b y)
 | .b a,.block id x=>.block id (Db3 a x)
 | .i a,.inner f x n c=>.inner f x n (Db3 a c)
 | .u S,_=>.sum S
 | _,c=>.pc c
theorem Vc2 {E:Env} {k:Nat} (rt:RT) (c:PC):Ga3 (fun x=>∀ s,V2 (x.1 s) (K6 E k x.2 s)) (Kb9 rt c)→ga2 E k (Db3 rt c) c:=by
 induction rt generalizing c with
 | p=>intro h;cases c<;>exact .pc _
 | s a b iha ihb =>
  intro h
  cases c with
  | seq x y=>exact .seq (iha x (Ga3.app h).1) (ihb y (Ga3.app h).2)
  | _=>exact .pc _
 | c a b iha ihb =>
  intro h
  cases c with
  | cond g x y=>exact .cond g (iha x (Ga3.app h).1) (ihb y (Ga3.app h).2)
  | _=>exact .pc _
 | b a iha =>
  intro h
  cases c with
  | block id x=>exact .block id (iha x h)
  | _=>exact .pc _
 | l a iha=>intro h;cases c<;>exact .pc _
 | i a iha =>
  intro h
  cases c with
  | inner f x n c=>exact .inner f x n (iha c h)
  | _=>exact .pc _
 | u S =>
  intro h
  have:Kb9 (.u S) c=[(S,c)]:=by cases c<;>rfl
  rw[this] at h
  cases h with
  | cons h t =>
   have e:Db3 (.u S) c=.sum S:=by cases c<;>rfl
   rw[e]
   exact .sum h
section
variable {π σ:Type} {E:Env} {k:Nat} {keep:List Nat} {alts:List (Al2 π σ)} {enc:π→σ→St} {step:π→σ→Stp σ} {xs:Xs π σ} {body:PS2} {c:PC}
theorem Cb1.belowM (hb:ga2 E k body c) (hN:E.N=rounds+1) (w:Cb1 id8 k keep (ec6 E k body) alts step xs enc) (s:St):V2 (Oc4 id8 k keep alts step xs s) (K6 E k (.loopM keep c) s):=fun r hr=>by
 obtain⟨t,h1,h2⟩:=w.go hr
 rw[vd2,hN]
 exact sb0 hb.le _ _ _ (Ib3 h1 h2)
theorem Cb1.belowML (hb:ga2 E k body c) (hN:E.N=rounds+1) (w:Cb1 Bb5 k keep (ec6 E k body) alts step xs enc) (s:St):V2 (Oc4 Bb5 k keep alts step xs s) (K6 E k (.loop keep c) s):=fun r hr=>by
 obtain⟨t,h1,h2⟩:=w.go hr
 rw[Oc3,hN]
 exact sb0 hb.le _ _ _ (Ib3 h1 h2)
end
end Go.Ev.L
namespace Go.Ev.Ab
open Go Go.Ev
@[reducible] def o (d:Nat) (x:PO):PI:=⟨some d,none,[],x⟩
@[reducible] def s (x:PO):PI:=⟨none,none,[],x⟩
@[reducible] def cb (b:Bool):Arg:=.c (.v (.bool b))
@[reducible] def vi (n:Int):b7:=.v (.int .i64 n)
@[reducible] def rep {α:Type} (n:Nat) (x:α):List α:=List.replicate n x
@[reducible] def ki (n:Nat):List CK:=List.replicate n (.int .i64)
@[reducible] def mv (d n:Nat):PI:=o d (.mv (.t n))
@[reducible] def mb (d:Nat) (x:Bool):PI:=o d (.mv (cb x))
@[reducible] def fd (d k n:Nat):PI:=o d (.fld k (.t n))
@[reducible] def lf (d k n:Nat):PI:=o d (.load (ki k) k false (.t n))
@[reducible] def ex (d x k:Nat):PI:=o d (.ext (.t x) k)
@[reducible] def gf (n:Nat) (x:PI):PI:=⟨x.dst,some (n,false),x.hide,x.op⟩
@[reducible] def so (l:List PI) (x:PC):PC:=.seq (.ops l) x
@[reducible] def ts (l:List Nat):List Arg:=l.map .t
@[reducible] def cl (f:Nat) (l:List Nat):PO:=.call f (ts l)
@[reducible] def sT (k a b:Nat):PI:=s (.store k (.t a) (.t b))
@[reducible] def pa (d c x:Nat):PI:=o d (.pick (.t c) (.t x) (cb false))
@[reducible] def po (d c x:Nat):PI:=o d (.pick (.t c) (cb true) (.t x))
@[reducible] def al (d k:Nat) (n:Int):PI:=o d (.alloc (rep k (vi n)))
@[reducible] def ap (d et es n x y:Nat):PI:=o d (.append et es n (.t x) (.t y))
end Go.Ev.Ab
namespace Go.Ev.L
open Go Go.Ev
def Cps {π σ:Type} (u:∀ {α:Type},(σ→α)→(Nat→α)→α→π→σ→α):Prop :=
 ∀ {α β:Type} (F:α→β) (k:σ→α) (e:Nat→α) (z:α) (p:π) (s:σ),F (u k e z p s)=u (fun x=>F (k x)) (fun t=>F (e t)) (F z) p s
@[reducible] noncomputable def foL {π σ:Type} (en:π→σ→St) (xs:Xs π σ) (p:π) (s:σ):Stp σ→Option (d7×St):=Bb6 (fun s'=>some (.normal,en p s')) (fun t=>xOf xs p s t 1) none
structure Lo (π σ:Type) where
 E:Env
 k:Nat
 F:PFn
 at':List Nat
 kp:List Nat
 rt:RT
 al:List (Al2 π σ)
 st:π→σ→Stp σ
 xs:Xs π σ
 en:π→σ→St
namespace Lo
variable {π σ:Type} (L:Lo π σ)
noncomputable def lc:PC:=Ie3 L.at' L.F.body
noncomputable def ls:St→DT (d7×St):=Oc4 Bb5 L.k L.kp L.al L.st L.xs
noncomputable def lsM:St→DT (d7×St):=Oc4 id8 L.k L.kp L.al L.st L.xs
noncomputable def pr:(St→DT (d7×St))×PC:=(L.ls,.loop L.kp L.lc)
noncomputable def prM:(St→DT (d7×St))×PC:=(L.lsM,.loopM L.kp L.lc)
def Ok:Prop:=∀ s,aa6 L.k L.F.res (L.pr.1 s) (K6 L.E L.k L.pr.2 s)
def OkE:Prop:=∀ s,V2 (L.pr.1 s) (K6 L.E L.k L.pr.2 s)
def OkM:Prop:=∀ s,V2 (L.prM.1 s) (K6 L.E L.k L.prM.2 s)
def Rd (hd:St→DT St) (bd:St→DT (d7×St)) (p:π) (s:σ) (a:St) (b:Stp σ):Prop:=(sb1 hd bd a).run=foL L.en L.xs p s b
def H0:Prop:=∀ p s,L.Rd (Bb5 L.k L.kp) (Ad1 L.E L.k L.F.res (Gc1 L.rt L.lc)) p s (L.en p s) (L.st p s)
def H1:Prop:=∀ p s,L.Rd (Bb5 L.k L.kp) (ec6 L.E L.k (Db3 L.rt L.lc)) p s (L.en p s) (L.st p s)
def H2:Prop:=∀ p s,L.Rd (id8 L.k L.kp) (ec6 L.E L.k (Db3 L.rt L.lc)) p s (L.en p s) (L.st p s)
def HA:Prop:=Ga3 (fun x=>∀ a H,(⟨Hd8 x.sh a,Hd9 x.bl H⟩:St)=L.en (x.rd a H).1 (x.rd a H).2) L.al
variable {L}
theorem Rd.of {hd : St → DT St} {bd : St → DT (d7 × St)} {p : π} {s : σ} {a : St} (u : ∀ {α : Type}, (σ → α) → (Nat → α) → α → π → σ → α)
  (q:Cps @u) (H:(sb1 hd bd a).run=u (fun x=>foL L.en L.xs p s (.next x)) (fun t=>foL L.en L.xs p s (.exit t)) (foL L.en L.xs p s .fail) p s):L.Rd hd bd p s a (u .next .exit .fail p s) :=
 H.trans (q (foL L.en L.xs p s) Stp.next Stp.exit Stp.fail p s).symm
theorem Rd.sel {hd:St→DT St} {bd:St→DT (d7×St)} {p:π} {s:σ} {a1 a0:St} {b1 b0:Stp σ} (c:Bool) (h1:L.Rd hd bd p s a1 b1) (h0:L.Rd hd bd p s a0 b0):L.Rd hd bd p s (sel c a1 a0) (sel c b1 b0):=by
 cases c with
 | true=>exact h1
 | false=>exact h0
theorem ok (l:List ((St→DT (d7×St))×PC)) (hs:Kb9 L.rt L.lc=l) (hl:Ga3 (fun x=>∀ s,aa6 L.k L.F.res (x.1 s) (K6 L.E L.k x.2 s)) l) (hN:L.E.N=rounds+1) (ha:L.HA) (h:L.H0):L.Ok :=
 Cb1.belowC (Ad9 _ _ (by rw[hs];exact hl)) hN ⟨ha,h⟩
theorem okE (l:List ((St→DT (d7×St))×PC)) (hs:Kb9 L.rt L.lc=l) (hl:Ga3 (fun x=>∀ s,V2 (x.1 s) (K6 L.E L.k x.2 s)) l) (hN:L.E.N=rounds+1) (ha:L.HA) (h:L.H1):L.OkE :=
 Cb1.belowML (Vc2 _ _ (by rw[hs];exact hl)) hN ⟨ha,h⟩
theorem okM (l:List ((St→DT (d7×St))×PC)) (hs:Kb9 L.rt L.lc=l) (hl:Ga3 (fun x=>∀ s,V2 (x.1 s) (K6 L.E L.k x.2 s)) l) (hN:L.E.N=rounds+1) (ha:L.HA) (h:L.H2):L.OkM :=
 Cb1.belowM (Vc2 _ _ (by rw[hs];exact hl)) hN ⟨ha,h⟩
end Lo
theorem Da2 {E : Env} {F : PFn} {args : List b7} {blks : List b8} {o : Option (b7 × List b8)} (rt : RT) (l : List ((St → DT (d7 × St)) × PC)) (hs : Kb9 rt F.body = l)
  (hl:Ga3 (fun x=>∀ s,aa6 (len blks) F.res (x.1 s) (K6 E (len blks) x.2 s)) l) (h:(ze3 E F (Gc1 rt F.body) args blks).run=o) (r:b7×List b8) (hr:o=some r):(l4 E F args blks).run=some r :=
 td5 (Ad9 rt _ (by rw[hs];exact hl)) r (h.trans hr)
theorem oe1 {E : Env} {F : PFn} {args : List b7} {blks : List b8} {o : Option (b7 × List b8)} (rt : RT) (l : List ((St → DT (d7 × St)) × PC)) (hs : Kb9 rt F.body = l)
  (hl:Ga3 (fun x=>∀ s,V2 (x.1 s) (K6 E (len blks) x.2 s)) l) (h:(me3 E F (Db3 rt F.body) args blks).run=o) (r:b7×List b8) (hr:o=some r):(Cb9 E F args blks).run=some r :=
 id7 (Vc2 rt _ (by rw[hs];exact hl)) r (h.trans hr)
theorem w6 {A o:Option (b7×List b8)} (h:A=o) (r:b7×List b8) (hr:o=some r):A=some r:=h.trans hr
end Go.Ev.L
namespace Go.Ev.Ce
structure V3 where
 x:Int
 y:Int
 z:Int
structure Pln where
 n:V3
 b:Int
structure Pt where
 px:Int
 py:Int
 pz:Int
 pw:Int
def i6 (a b:V3):V3:=⟨a.y*b.z - a.z*b.y,a.z*b.x - a.x*b.z,a.x*b.y - a.y*b.x⟩
def dot (a b:V3):Int:=a.x*b.x+a.y*b.y+a.z*b.z
def mw (p q r:Pln):Int:=dot p.n (i6 q.n r.n)
end Go.Ev.Ce
namespace Go.Ev.Ce
open Go Go.Ev Go.Ev.L Go.Proofs
@[reducible] noncomputable def prog:Program:=Tryz.prog
noncomputable def G:Nat→List Value:=fun _=>[]
noncomputable def En (l:List (Nat×Sum)):Env:={ P:=prog,G,fns:=fun _=>none,call:=qe9 l,own:=fun f j=>Bool.and (Pa1 f [99,103,105,135,163,198,200,202]) (Nat.beq j 0),N:=18446744073709551616 }
@[reducible] def u:b7:=.v (.tuple #[])
theorem Ee6 {l:List (Nat×Sum)} (h:l5 prog G l):∀ f,j6 (En l).P (En l).G f ((En l).call f):=zd9 h
theorem bd {l:List (Nat×Sum)} {f:FuncId} {R:Env→Sum} (b:r8 prog f R) (h:l5 prog G l):j6 prog G f (R (En l)):=b rfl (Ee6 h)
noncomputable def tV:Ty V3 where
 es:=3
 row x:=[i x.x,i x.y,i x.z]
 rd r:=⟨toI (hdA r),toI (hdA (tlA r)),toI (hdA (tlA (tlA r)))⟩
 ok r:=Ca9 3 r
 cks:=List.replicate 3 (.int .i64)
 d:=⟨0,0,0⟩
 h0 _:=rfl
 h1 _:=rfl
 h2 _:=rfl
 h3 _ h:=.of (La4 h)
 h4 _:=rfl
 h5 _:=rfl
noncomputable def r1V:R1 V3:=r1A tV 3 fun _ h=>h
noncomputable def tP:Ty Pln where
 es:=4
 row x:=[i x.n.x,i x.n.y,i x.n.z,i x.b]
 rd r:=⟨⟨toI (hdA r),toI (hdA (tlA r)),toI (hdA (tlA (tlA r)))⟩,toI (hdA (tlA (tlA (tlA r))))⟩
 ok r:=Ca9 4 r
 cks:=List.replicate 4 (.int .i64)
 d:=⟨⟨0,0,0⟩,0⟩
 h0 _:=rfl
 h1 _:=rfl
 h2 _:=rfl
 h3 _ h:=.of (La4 h)
 h4 _:=rfl
 h5 _:=rfl
noncomputable def r1P:R1 Pln:=r1A tP 4 fun _ h=>h
noncomputable def tX:Ty Pt where
 es:=4
 row x:=[i x.px,i x.py,i x.pz,i x.pw]
 rd r:=⟨toI (hdA r),toI (hdA (tlA r)),toI (hdA (tlA (tlA r))),toI (hdA (tlA (tlA (tlA r))))⟩
 ok r:=Ca9 4 r
 cks:=List.replicate 4 (.int .i64)
 d:=⟨0,0,0,0⟩
 h0 _:=rfl
 h1 _:=rfl
 h2 _:=rfl
 h3 _ h:=.of (La4 h)
 h4 _:=rfl
 h5 _:=rfl
noncomputable def r1X:R1 Pt:=r1A tX 4 fun _ h=>h
structure Tp where
 p:Pln
 q:Pln
 r:Pln
noncomputable def tY:Ty Tp where
 es:=12
 row x:=[i x.p.n.x,i x.p.n.y,i x.p.n.z,i x.p.b,i x.q.n.x,i x.q.n.y,i x.q.n.z,i x.q.b,i x.r.n.x,i x.r.n.y,i x.r.n.z,i x.r.b]
 rd r:=⟨⟨⟨toI (hdA r),toI (hdA (tlA r)),toI (hdA (tlA (tlA r)))⟩,toI (hdA (tlA (tlA (tlA r))))⟩,⟨⟨toI (hdA (tlA (tlA (tlA (tlA r))))),toI (hdA (tlA (tlA (tlA (tlA (tlA r)))))),toI (hdA (tlA (tlA (tlA (tlA (tlA (tlA r)))))))⟩,toI (hdA (tlA (tlA (tlA (tlA (tlA (tlA (tlA r))))))))⟩,⟨⟨toI (hdA (tlA (tlA (tlA (tlA (tlA (tlA (tlA (tlA r))))))))),toI (hdA (tlA (tlA (tlA (tlA (tlA (tlA (tlA (tlA (tlA r)))))))))),toI (hdA (tlA (tlA (tlA (tlA (tlA (tlA (tlA (tlA (tlA (tlA r)))))))))))⟩,toI (hdA (tlA (tlA (tlA (tlA (tlA (tlA (tlA (tlA (tlA (tlA (tlA r))))))))))))⟩⟩
 ok r:=Ca9 12 r
 cks:=List.replicate 12 (.int .i64)
 d:=⟨⟨⟨0,0,0⟩,0⟩,⟨⟨0,0,0⟩,0⟩,⟨⟨0,0,0⟩,0⟩⟩
 h0 _:=rfl
 h1 _:=rfl
 h2 _:=rfl
 h3 _ h:=.of (La4 h)
 h4 _:=rfl
 h5 _:=rfl
structure Q2 where
 a:V3
 b:V3
end Go.Ev.Ce
section
namespace Go.Ev.Ce
open Go Go.Ev Go.Ev.L Go.Proofs
set_option maxRecDepth 100000
noncomputable def jd0:List (Nat×Sum):=[]
theorem Vc3:l5 prog G jd0:=trivial
noncomputable def La5 (x:Pln) (y:Pt):Int:=(W ((W ((W ((W (x.b*y.pw)) - (W (x.n.x*y.px)))) - (W (x.n.y*y.py)))) - (W (x.n.z*y.pz))))
noncomputable def sb8:Sum:=la2 (W9 tP) (W9 tX) (fun x y=>.ret ((one r1I).enc (La5 x y),[]))
theorem Db4:j6 prog G 37 sb8:=ta3 (bd b37 Vc3) fun x y=>w6 (by kernel_rfl)
noncomputable def vd3:List (Nat×Sum):=[]
theorem jd1:l5 prog G vd3:=trivial
noncomputable def Za3 (x:V3) (y:V3):V3:=(⟨(W (x.x+y.x)),(W (x.y+y.y)),(W (x.z+y.z))⟩:V3)
noncomputable def Pc4:Sum:=la2 (W9 tV) (W9 tV) (fun x y=>.ret ((one r1V).enc (Za3 x y),[]))
theorem vd4:j6 prog G 126 Pc4:=ta3 (bd Me8 jd1) fun x y=>w6 (by kernel_rfl)
noncomputable def vd5:List (Nat×Sum):=[]
theorem jd2:l5 prog G vd5:=trivial
noncomputable def ra9 (x:V3) (y:V3):Int:=(W ((W ((W (x.x*y.x))+(W (x.y*y.y))))+(W (x.z*y.z))))
noncomputable def Jb2:Sum:=la2 (W9 tV) (W9 tV) (fun x y=>.ret ((one r1I).enc (ra9 x y),[]))
theorem Qb3:j6 prog G 130 Jb2:=ta3 (bd Ne0 jd2) fun x y=>w6 (by kernel_rfl)
noncomputable def Vc4:List (Nat×Sum):=[]
theorem Gc2:l5 prog G Vc4:=trivial
noncomputable def R7 (x:V3) (y:V3):V3:=(⟨(W ((W (x.y*y.z)) - (W (x.z*y.y)))),(W ((W (x.z*y.x)) - (W (x.x*y.z)))),(W ((W (x.x*y.y)) - (W (x.y*y.x))))⟩:V3)
noncomputable def Db5:Sum:=la2 (W9 tV) (W9 tV) (fun x y=>.ret ((one r1V).enc (R7 x y),[]))
theorem Wb2:j6 prog G 186 Db5:=ta3 (bd Pe2 Gc2) fun x y=>w6 (by kernel_rfl)
noncomputable def Gc3:List (Nat×Sum):=[]
theorem xc1:l5 prog G Gc3:=trivial
noncomputable def P5 (x:V3) (y:Int):V3:=(⟨(W (x.x*y)),(W (x.y*y)),(W (x.z*y))⟩:V3)
noncomputable def Wb3:Sum:=la2 (W9 tV) cI (fun x y=>.ret ((one r1V).enc (P5 x y),[]))
theorem Gc4:j6 prog G 219 Wb3:=ta3 (bd Qe0 xc1) fun x y=>w6 (by kernel_rfl)
noncomputable def Nb0:List (Nat×Sum):=[]
theorem xc2:l5 prog G Nb0:=trivial
structure ua0 where
structure X0 where
 is0:Int
 is1:Int
noncomputable def mc8 (p:ua0) (s:X0):St:=⟨((i s.is0)::((i s.is1)::(ra 10 []))),[]⟩
noncomputable def ma0 {α:Type} (k:X0→α) (e:Nat→α) (z:α) (p:ua0) (s:X0):α:=(sl (s.is1 != 0) (sl (s.is1==0) z (k ⟨s.is1,(Int.tmod s.is0 s.is1)⟩)) (e 1))
noncomputable def pa8 (p:ua0) (s:X0):Stp X0:=ma0 .next .exit .fail p s
noncomputable def bb4:Lo ua0 X0:=⟨En Nb0,0,ne9,[1,0,4,4],[0,1],.p,[⟨((.s (.o (.int .i64)))::((.s (.o (.int .i64)))::(ru2 10 []))),[],fun a H=>(⟨⟩,⟨(toI (slT a 0)),(toI (slT a 1))⟩)⟩],pa8,[(some 0,fun p s=>⟨((i s.is0)::((i s.is1)::(ra 3 ((i s.is1)::((b (s.is1 != 0))::(ra 5 [])))))),[]⟩)],mc8⟩
theorem mc9:bb4.Ok:=Lo.ok [] (by kernel_rfl) .nil rfl (.cons (fun a H=>by kernel_rfl) .nil) fun p s=>(.of @ma0 (fun F _ _ _ _ _=>by unfold ma0;(repeat' apply o0 (f:=F))<;>rfl) (by kernel_rfl))
noncomputable def Ga4 (x:Int) (y:Int):Option (b7×List b8):=let t1:=(lp (pa8 (⟨⟩:ua0)) (⟨x,y⟩:X0));(sl (Nat.beq t1.1 1) (some ((i t1.2.is0),[])) none)
noncomputable def P6 (x:Int) (y:Int):Int:=P4 (one r1I) (Ga4 x y)
noncomputable def P7 (x:Int) (y:Int):Bool:=okO (one r1I) (Ga4 x y)
noncomputable def Wb4:Sum:=la2 cI cI (fun x y=>.guard (P7 x y) (.ret ((one r1I).enc (P6 x y),[])))
theorem Gc5:j6 prog G 220 Wb4:=nb9 (bd Qe1 xc2) (one r1I) (o:=Ga4) fun x y=>Da2 (.s .p (.s (.b (.u bb4.ls)) .p)) [bb4.pr] (by kernel_rfl) (.cons mc9 .nil) (by kernel_rfl)
noncomputable def jd3:List (Nat×Sum):=[(186,Db5),(130,Jb2),(219,Wb3),(126,Pc4),(220,Wb4)]
theorem Vc5:l5 prog G jd3:=⟨Wb2,Qb3,Gc4,vd4,Gc5,trivial⟩
noncomputable def bb5 (x:Pln) (y:Pln) (z:Pln):Option (b7×List b8):=let t1:=(R7 y.n z.n);let t2:=(ra9 x.n t1);let t3:=(P5 t1 x.b);let t4:=(R7 z.n x.n);let t5:=(P5 t4 y.b);let t6:=(Za3 t3 t5);let t7:=(R7 x.n y.n);let t8:=(P5 t7 z.b);let t9:=(Za3 t6 t8);let t10:=(P5 t9 (-1));let t11:=(P6 (if (W (0 - t10.x)) > t10.x then (W (0 - t10.x)) else t10.x) (if (W (0 - t10.y)) > t10.y then (W (0 - t10.y)) else t10.y));let t12:=(P6 (if (W (0 - t10.z)) > t10.z then (W (0 - t10.z)) else t10.z) (W (0 - t2)));let t13:=(P6 t11 t12);let t14:=(P6 (if (W (0 - t9.x)) > t9.x then (W (0 - t9.x)) else t9.x) (if (W (0 - t9.y)) > t9.y then (W (0 - t9.y)) else t9.y));let t15:=(P6 (if (W (0 - t9.z)) > t9.z then (W (0 - t9.z)) else t9.z) t2);let t16:=(P6 t14 t15);(sl (t2==0) (some ((.tup [(.agg [(i 0),(i 0),(i 0),(i 0)]),(b false)]),[])) (sl (decide (t2 < 0)) (sl (P7 (if (W (0 - t10.x)) > t10.x then (W (0 - t10.x)) else t10.x) (if (W (0 - t10.y)) > t10.y then (W (0 - t10.y)) else t10.y)) (sl (P7 (if (W (0 - t10.z)) > t10.z then (W (0 - t10.z)) else t10.z) (W (0 - t2))) (sl (P7 t11 t12) (sl (t13==0) none (sl (t13==0) none (sl (t13==0) none (sl (t13==0) none (some ((.tup [(.agg [(i (W (Int.tdiv t10.x t13))),(i (W (Int.tdiv t10.y t13))),(i (W (Int.tdiv t10.z t13))),(i (W (Int.tdiv (W (0 - t2)) t13)))]),(b true)]),[])))))) none) none) none) (sl (P7 (if (W (0 - t9.x)) > t9.x then (W (0 - t9.x)) else t9.x) (if (W (0 - t9.y)) > t9.y then (W (0 - t9.y)) else t9.y)) (sl (P7 (if (W (0 - t9.z)) > t9.z then (W (0 - t9.z)) else t9.z) t2) (sl (P7 t14 t15) (sl (t16==0) none (sl (t16==0) none (sl (t16==0) none (sl (t16==0) none (some ((.tup [(.agg [(i (W (Int.tdiv t9.x t16))),(i (W (Int.tdiv t9.y t16))),(i (W (Int.tdiv t9.z t16))),(i (W (Int.tdiv t2 t16)))]),(b true)]),[])))))) none) none) none)))
noncomputable def bb6 (x:Pln) (y:Pln) (z:Pln):Pt×Bool:=P4 (two r1X r1B) (bb5 x y z)
noncomputable def bb7 (x:Pln) (y:Pln) (z:Pln):Bool:=okO (two r1X r1B) (bb5 x y z)
noncomputable def xc3:Sum:=Uc0 (W9 tP) (W9 tP) (W9 tP) (fun x y z=>.guard (bb7 x y z) (.ret ((two r1X r1B).enc (bb6 x y z),[])))
theorem jd4:j6 prog G 172 xc3:=ze8 (bd Oe1 Vc5) (two r1X r1B) (o:=bb5) fun x y z=>w6 (by kernel_rfl)
noncomputable def Pc5:List (Nat×Sum):=[(37,sb8)]
theorem vd6:l5 prog G Pc5:=⟨Db4,trivial⟩
structure bb8 where
 c9:List Pln
 f9:Int
 c8:Int
 g7:Int
 d9:Int
structure pa1 where
 is5:Int
noncomputable def jd5 (p:bb8) (s:pa1):St:=⟨((eL tP p.c9)::(.unk::(.unk::((.ptr 0 0 0 0)::(.unk::((i s.is5)::(ra 13 []))))))),[⟨0,4,[[(i p.f9),(i p.c8),(i p.g7),(i p.d9)]],true,false,0⟩]⟩
noncomputable def Ga5 {α:Type} (k:pa1→α) (e:Nat→α) (z:α) (p:bb8) (s:pa1):α:=let t1:=(La5 (gL tP p.c9 s.is5.toNat) (⟨p.f9,p.c8,p.g7,p.d9⟩:Pt));(sl (decide (s.is5 < (↑(List.length p.c9):Int))) (sl (inB s.is5 (List.length p.c9)) (sl (decide (t1 < 0)) (e 1) (k ⟨(W (s.is5+1))⟩)) z) (e 2))
noncomputable def Pa5 (p:bb8) (s:pa1):Stp pa1:=Ga5 .next .exit .fail p s
noncomputable def Qb4:Lo bb8 pa1:=⟨En Pc5,0,me6,[1,0,1,4,4],[0,3,5],.p,[⟨((.s (.c 4 (nL tP)))::((.s (.o .unk))::((.s (.o .unk))::((.s (.o (.ptr 0 0 0 0)))::((.s (.o .unk))::((.s (.o (.int .i64)))::(ru2 13 []))))))),[⟨0,4,true,(some [[(.o (.int .i64)),(.o (.int .i64)),(.o (.int .i64)),(.o (.int .i64))]])⟩],fun a H=>(⟨(rL tP (slT a 0)),(toI (slT (rwT (elT H 0) 0) 0)),(toI (slT (rwT (elT H 0) 0) 1)),(toI (slT (rwT (elT H 0) 0) 2)),(toI (slT (rwT (elT H 0) 0) 3))⟩,⟨(toI (slT a 5))⟩)⟩],Pa5,[(none,fun p s=>⟨[(b false)],[]⟩),(some 0,fun p s=>⟨((eL tP p.c9)::(.unk::(.unk::((.ptr 0 0 0 0)::(.unk::((i s.is5)::((i s.is5)::((eL tP p.c9)::((i (↑(List.length p.c9):Int))::((b (decide (s.is5 < (↑(List.length p.c9):Int))))::(ra 9 []))))))))))),[⟨0,4,[[(i p.f9),(i p.c8),(i p.g7),(i p.d9)]],true,false,0⟩]⟩)],jd5⟩
theorem jd6:Qb4.Ok:=Lo.ok [] (by kernel_rfl) .nil rfl (.cons (fun a H=>by kernel_rfl) .nil) fun p s=>(.of @Ga5 (fun F _ _ _ _ _=>by unfold Ga5;(repeat' apply o0 (f:=F))<;>rfl) (by kernel_rfl))
noncomputable def Db6 (x:List Pln) (y:Pt):Option (b7×List b8):=let t1:=(lp (Pa5 (⟨(rt tP x),y.px,y.py,y.pz,y.pw⟩:bb8)) (⟨0⟩:pa1));(sl ((cnE tP x)&&true) (sl (Nat.beq t1.1 1) (some ((b false),[])) (sl (Nat.beq t1.1 2) (some ((b true),[])) none)) none)
noncomputable def ob4 (x:List Pln) (y:Pt):Bool:=P4 (one r1B) (Db6 x y)
noncomputable def ob5 (x:List Pln) (y:Pt):Bool:=okO (one r1B) (Db6 x y)
noncomputable def jd7:Sum:=la2 (ia2 tP) (W9 tX) (fun x y=>.guard (ob5 x y) (.ret ((one r1B).enc (ob4 x y),[])))
theorem Jd9:j6 prog G 110 jd7:=nb9 (bd Me1 vd6) (one r1B) (o:=Db6) fun x y=>Da2 (.s .p (.s (.s .p (.b (.u Qb4.ls))) .p)) [Qb4.pr] (by kernel_rfl) (.cons jd6 .nil) (by kernel_rfl)
noncomputable def Wb5:List (Nat×Sum):=[]
theorem Gc6:l5 prog G Wb5:=trivial
structure za8 where
 B8:List Pt
 f9:Int
 c8:Int
 g7:Int
 d9:Int
structure V5 where
 is5:Int
noncomputable def xc4 (p:za8) (s:V5):St:=⟨((eL tX p.B8)::(.unk::(.unk::((.ptr 0 0 0 0)::(.unk::((i s.is5)::(ra 12 []))))))),[⟨0,4,[[(i p.f9),(i p.c8),(i p.g7),(i p.d9)]],true,false,0⟩]⟩
noncomputable def pa9 {α:Type} (k:V5→α) (e:Nat→α) (z:α) (p:za8) (s:V5):α:=(sl (decide (s.is5 < (↑(List.length p.B8):Int))) (sl (inB s.is5 (List.length p.B8)) (sl (((gL tX p.B8 s.is5.toNat).px==p.f9)&&(((gL tX p.B8 s.is5.toNat).py==p.c8)&&(((gL tX p.B8 s.is5.toNat).pz==p.g7)&&(((gL tX p.B8 s.is5.toNat).pw==p.d9)&&true)))) (e 1) (k ⟨(W (s.is5+1))⟩)) z) (e 2))
noncomputable def ua1 (p:za8) (s:V5):Stp V5:=pa9 .next .exit .fail p s
noncomputable def kb7:Lo za8 V5:=⟨En Wb5,0,ne2,[1,0,1,4,4],[0,3,5],.p,[⟨((.s (.c 4 (nL tX)))::((.s (.o .unk))::((.s (.o .unk))::((.s (.o (.ptr 0 0 0 0)))::((.s (.o .unk))::((.s (.o (.int .i64)))::(ru2 12 []))))))),[⟨0,4,true,(some [[(.o (.int .i64)),(.o (.int .i64)),(.o (.int .i64)),(.o (.int .i64))]])⟩],fun a H=>(⟨(rL tX (slT a 0)),(toI (slT (rwT (elT H 0) 0) 0)),(toI (slT (rwT (elT H 0) 0) 1)),(toI (slT (rwT (elT H 0) 0) 2)),(toI (slT (rwT (elT H 0) 0) 3))⟩,⟨(toI (slT a 5))⟩)⟩],ua1,[(none,fun p s=>⟨[(b true)],[]⟩),(some 0,fun p s=>⟨((eL tX p.B8)::(.unk::(.unk::((.ptr 0 0 0 0)::(.unk::((i s.is5)::((i s.is5)::((eL tX p.B8)::((i (↑(List.length p.B8):Int))::((b (decide (s.is5 < (↑(List.length p.B8):Int))))::(ra 8 []))))))))))),[⟨0,4,[[(i p.f9),(i p.c8),(i p.g7),(i p.d9)]],true,false,0⟩]⟩)],xc4⟩
theorem xc5:kb7.Ok:=Lo.ok [] (by kernel_rfl) .nil rfl (.cons (fun a H=>by kernel_rfl) .nil) fun p s=>(.of @pa9 (fun F _ _ _ _ _=>by unfold pa9;(repeat' apply o0 (f:=F))<;>rfl) (by kernel_rfl))
noncomputable def Pa6 (x:List Pt) (y:Pt):Option (b7×List b8):=let t1:=(lp (ua1 (⟨(rt tX x),y.px,y.py,y.pz,y.pw⟩:za8)) (⟨0⟩:V5));(sl ((cnE tX x)&&true) (sl (Nat.beq t1.1 1) (some ((b true),[])) (sl (Nat.beq t1.1 2) (some ((b false),[])) none)) none)
noncomputable def Ea6 (x:List Pt) (y:Pt):Bool:=P4 (one r1B) (Pa6 x y)
noncomputable def Ea7 (x:List Pt) (y:Pt):Bool:=okO (one r1B) (Pa6 x y)
noncomputable def kc5:Sum:=la2 (ia2 tX) (W9 tX) (fun x y=>.guard (Ea7 x y) (.ret ((one r1B).enc (Ea6 x y),[])))
theorem Vc6:j6 prog G 173 kc5:=nb9 (bd Oe2 Gc6) (one r1B) (o:=Pa6) fun x y=>Da2 (.s .p (.s (.s .p (.b (.u kb7.ls))) .p)) [kb7.pr] (by kernel_rfl) (.cons xc5 .nil) (by kernel_rfl)
noncomputable def Ga6:List (Nat×Sum):=[(172,xc3),(110,jd7),(173,kc5)]
theorem nc0:l5 prog G Ga6:=⟨jd4,Jd9,Vc6,trivial⟩
structure L6 where
 c9:List Pln
 is4:Int
 is5:Int
structure q7 where
 ph:Nat
 is6:Int
 ns3:Nat
 eh0:List (List b7)
noncomputable def Wb6 (p:L6) (s:q7):St:=⟨((eL tP p.c9)::(.unk::(.unk::((.v (.slice none 0 0))::((i p.is4)::((i p.is5)::((i s.is6)::(ra 57 [])))))))),[]⟩
noncomputable def Wb7 (p:L6) (s:q7):St:=⟨((eL tP p.c9)::(.unk::(.unk::((.sl 0 0 s.ns3 0)::((i p.is4)::((i p.is5)::((i s.is6)::(ra 57 [])))))))),[⟨54,4,s.eh0,true,false,0⟩]⟩
noncomputable def ec7 (p:L6) (s:q7):St:=(sel (Nat.beq s.ph 1) (Wb7 p s) (Wb6 p s))
noncomputable def P8 {α:Type} (k:q7→α) (e:Nat→α) (z:α) (p:L6) (s:q7):α:=let t1:=(bb6 (gL tP p.c9 p.is4.toNat) (gL tP p.c9 p.is5.toNat) (gL tP p.c9 s.is6.toNat));let t2:=(ob4 (rt tP p.c9) t1.1);let t3:=(Ea6 [] t1.1);(sl (decide (s.is6 < (↑(List.length p.c9):Int))) (sl (inB p.is4 (List.length p.c9)) (sl (inB p.is5 (List.length p.c9)) (sl (inB s.is6 (List.length p.c9)) (sl (bb7 (gL tP p.c9 p.is4.toNat) (gL tP p.c9 p.is5.toNat) (gL tP p.c9 s.is6.toNat)) (sl t1.2 (sl (okE tP p.c9) (sl (ob5 (rt tP p.c9) t1.1) (sl t2 (sl (Ea7 [] t1.1) (sl (!t3) (k ⟨1,(W (s.is6+1)),1,[[(i t1.1.px),(i t1.1.py),(i t1.1.pz),(i t1.1.pw)]]⟩) (k ⟨0,(W (s.is6+1)),0,[]⟩)) z) (k ⟨0,(W (s.is6+1)),0,[]⟩)) z) z) (k ⟨0,(W (s.is6+1)),0,[]⟩)) z) z) z) z) (e 1))
noncomputable def P9 {α:Type} (k:q7→α) (e:Nat→α) (z:α) (p:L6) (s:q7):α:=let t1:=(bb6 (gL tP p.c9 p.is4.toNat) (gL tP p.c9 p.is5.toNat) (gL tP p.c9 s.is6.toNat));let t2:=(ob4 (rt tP p.c9) t1.1);let t3:=(Ea6 (slR tX s.eh0 0 s.ns3) t1.1);(sl (decide (s.is6 < (↑(List.length p.c9):Int))) (sl (inB p.is4 (List.length p.c9)) (sl (inB p.is5 (List.length p.c9)) (sl (inB s.is6 (List.length p.c9)) (sl (bb7 (gL tP p.c9 p.is4.toNat) (gL tP p.c9 p.is5.toNat) (gL tP p.c9 s.is6.toNat)) (sl t1.2 (sl (okE tP p.c9) (sl (ob5 (rt tP p.c9) t1.1) (sl t2 (sl (okS tX s.eh0 0 s.ns3) (sl (Ea7 (slR tX s.eh0 0 s.ns3) t1.1) (sl (!t3) (sl (Nat.beq s.ns3 (len s.eh0)&&Nat.ble ((s.ns3+1)*32) room) (k ⟨1,(W (s.is6+1)),(s.ns3+1),(app s.eh0 [[(i t1.1.px),(i t1.1.py),(i t1.1.pz),(i t1.1.pw)]])⟩) z) (k ⟨1,(W (s.is6+1)),s.ns3,s.eh0⟩)) z) z) (k ⟨1,(W (s.is6+1)),s.ns3,s.eh0⟩)) z) z) (k ⟨1,(W (s.is6+1)),s.ns3,s.eh0⟩)) z) z) z) z) (e 2))
noncomputable def N4 (p:L6) (s:q7):Stp q7:=(sel (Nat.beq s.ph 1) (P9 .next .exit .fail p s) (P8 .next .exit .fail p s))
noncomputable def Ta2:Lo L6 q7:=⟨En Ga6,0,fe3,[1,1,0,1,4,4,1,0,4,1,4,4,1,0,4,1,4,4],[0,3,4,5,6],.p,[⟨((.s (.c 4 (nL tP)))::((.s (.o .unk))::((.s (.o .unk))::((.s (.o .nil))::((.s (.o (.int .i64)))::((.s (.o (.int .i64)))::((.s (.o (.int .i64)))::(ru2 57 [])))))))),[],fun a H=>(⟨(rL tP (slT a 0)),(toI (slT a 4)),(toI (slT a 5))⟩,⟨0,(toI (slT a 6)),0,[]⟩)⟩,⟨((.s (.c 4 (nL tP)))::((.s (.o .unk))::((.s (.o .unk))::((.s (.o (.sl 0 0 (some 0) none)))::((.s (.o (.int .i64)))::((.s (.o (.int .i64)))::((.s (.o (.int .i64)))::(ru2 57 [])))))))),[⟨54,4,true,none⟩],fun a H=>(⟨(rL tP (slT a 0)),(toI (slT a 4)),(toI (slT a 5))⟩,⟨1,(toI (slT a 6)),(slN (slT a 3)),(elT H 0)⟩)⟩],N4,[(some 4,fun p s=>⟨((eL tP p.c9)::(.unk::(.unk::((.v (.slice none 0 0))::((i p.is4)::((i p.is5)::((i s.is6)::(ra 18 ((i s.is6)::((eL tP p.c9)::((i (↑(List.length p.c9):Int))::((b (decide (s.is6 < (↑(List.length p.c9):Int))))::(ra 35 []))))))))))))),[]⟩),(some 4,fun p s=>⟨((eL tP p.c9)::(.unk::(.unk::((.sl 0 0 s.ns3 0)::((i p.is4)::((i p.is5)::((i s.is6)::(ra 18 ((i s.is6)::((eL tP p.c9)::((i (↑(List.length p.c9):Int))::((b (decide (s.is6 < (↑(List.length p.c9):Int))))::(ra 35 []))))))))))))),[⟨54,4,s.eh0,true,false,0⟩]⟩)],ec7⟩
theorem ec8:Ta2.Ok:=Lo.ok [] (by kernel_rfl) .nil rfl (.cons (fun a H=>by kernel_rfl) (.cons (fun a H=>by kernel_rfl) .nil)) fun p s=>(.sel (Nat.beq s.ph 1) (.of @P9 (fun F _ _ _ _ _=>by unfold P9;(repeat' apply o0 (f:=F))<;>rfl) (by kernel_rfl)) (.of @P8 (fun F _ _ _ _ _=>by unfold P8;(repeat' apply o0 (f:=F))<;>rfl) (by kernel_rfl)))
structure L7 where
 is4:Int
structure r5 where
 ph:Nat
 c9:List Pln
 is5:Int
 ns3:Nat
 eh0:List (List b7)
noncomputable def Wb8 (p:L7) (s:r5):St:=⟨((eL tP s.c9)::(.unk::(.unk::((.v (.slice none 0 0))::((i p.is4)::((i s.is5)::(ra 58 []))))))),[]⟩
noncomputable def Wb9 (p:L7) (s:r5):St:=⟨((eL tP s.c9)::(.unk::(.unk::((.sl 0 0 s.ns3 0)::((i p.is4)::((i s.is5)::(ra 58 []))))))),[⟨54,4,s.eh0,true,false,0⟩]⟩
noncomputable def ec9 (p:L7) (s:r5):St:=(sel (Nat.beq s.ph 1) (Wb9 p s) (Wb8 p s))
noncomputable def Q0 {α:Type} (k:r5→α) (e:Nat→α) (z:α) (p:L7) (s:r5):α:=let t1:=(lp (N4 (⟨(rt tP s.c9),p.is4,s.is5⟩:L6)) (⟨0,(W (s.is5+1)),0,[]⟩:q7));(sl (decide (s.is5 < (↑(List.length s.c9):Int))) (sl ((cnE tP s.c9)&&true) (sl (Nat.beq t1.1 1) (k ⟨0,(rt tP s.c9),(W (s.is5+1)),0,[]⟩) (sl (Nat.beq t1.1 2) (k ⟨1,(rt tP s.c9),(W (s.is5+1)),t1.2.ns3,t1.2.eh0⟩) z)) z) (e 1))
noncomputable def Q1 {α:Type} (k:r5→α) (e:Nat→α) (z:α) (p:L7) (s:r5):α:=let t1:=(lp (N4 (⟨(rt tP s.c9),p.is4,s.is5⟩:L6)) (⟨1,(W (s.is5+1)),s.ns3,s.eh0⟩:q7));(sl (decide (s.is5 < (↑(List.length s.c9):Int))) (sl ((cnE tP s.c9)&&true) (sl (Nat.beq t1.1 1) (k ⟨0,(rt tP s.c9),(W (s.is5+1)),0,[]⟩) (sl (Nat.beq t1.1 2) (k ⟨1,(rt tP s.c9),(W (s.is5+1)),t1.2.ns3,t1.2.eh0⟩) z)) z) (e 2))
noncomputable def J7 (p:L7) (s:r5):Stp r5:=(sel (Nat.beq s.ph 1) (Q1 .next .exit .fail p s) (Q0 .next .exit .fail p s))
noncomputable def Ta3:Lo L7 r5:=⟨En Ga6,0,fe3,[1,1,0,1,4,4,1,0,4,1,4,4],[0,3,4,5],(.s .p (.s (.b (.s .p (.b (.u Ta2.ls)))) .p)),[⟨((.s (.c 4 (nL tP)))::((.s (.o .unk))::((.s (.o .unk))::((.s (.o .nil))::((.s (.o (.int .i64)))::((.s (.o (.int .i64)))::(ru2 58 []))))))),[],fun a H=>(⟨(toI (slT a 4))⟩,⟨0,(rL tP (slT a 0)),(toI (slT a 5)),0,[]⟩)⟩,⟨((.s (.c 4 (nL tP)))::((.s (.o .unk))::((.s (.o .unk))::((.s (.o (.sl 0 0 (some 0) none)))::((.s (.o (.int .i64)))::((.s (.o (.int .i64)))::(ru2 58 []))))))),[⟨54,4,true,none⟩],fun a H=>(⟨(toI (slT a 4))⟩,⟨1,(rL tP (slT a 0)),(toI (slT a 5)),(slN (slT a 3)),(elT H 0)⟩)⟩],J7,[(some 2,fun p s=>⟨((eL tP s.c9)::(.unk::(.unk::((.v (.slice none 0 0))::((i p.is4)::((i s.is5)::(ra 11 ((i s.is5)::((eL tP s.c9)::((i (↑(List.length s.c9):Int))::((b (decide (s.is5 < (↑(List.length s.c9):Int))))::(ra 43 [])))))))))))),[]⟩),(some 2,fun p s=>⟨((eL tP s.c9)::(.unk::(.unk::((.sl 0 0 s.ns3 0)::((i p.is4)::((i s.is5)::(ra 11 ((i s.is5)::((eL tP s.c9)::((i (↑(List.length s.c9):Int))::((b (decide (s.is5 < (↑(List.length s.c9):Int))))::(ra 43 [])))))))))))),[⟨54,4,s.eh0,true,false,0⟩]⟩)],ec9⟩
theorem fc0:Ta3.Ok:=Lo.ok [Ta2.pr] (by kernel_rfl) (.cons ec8 .nil) rfl (.cons (fun a H=>by kernel_rfl) (.cons (fun a H=>by kernel_rfl) .nil)) fun p s=>(.sel (Nat.beq s.ph 1) (.of @Q1 (fun F _ _ _ _ _=>by unfold Q1;(repeat' apply o0 (f:=F))<;>rfl) (by kernel_rfl)) (.of @Q0 (fun F _ _ _ _ _=>by unfold Q0;(repeat' apply o0 (f:=F))<;>rfl) (by kernel_rfl)))
structure R8 where
structure A2 where
 ph:Nat
 c9:List Pln
 is4:Int
 ns3:Nat
 eh0:List (List b7)
noncomputable def Xb0 (p:R8) (s:A2):St:=⟨((eL tP s.c9)::(.unk::(.unk::((.v (.slice none 0 0))::((i s.is4)::(ra 59 [])))))),[]⟩
noncomputable def Xb1 (p:R8) (s:A2):St:=⟨((eL tP s.c9)::(.unk::(.unk::((.sl 0 0 s.ns3 0)::((i s.is4)::(ra 59 [])))))),[⟨54,4,s.eh0,true,false,0⟩]⟩
noncomputable def fc1 (p:R8) (s:A2):St:=(sel (Nat.beq s.ph 1) (Xb1 p s) (Xb0 p s))
noncomputable def Q3 {α:Type} (k:A2→α) (e:Nat→α) (z:α) (p:R8) (s:A2):α:=let t1:=(lp (J7 (⟨s.is4⟩:L7)) (⟨0,(rt tP s.c9),(W (s.is4+1)),0,[]⟩:r5));(sl (decide (s.is4 < (↑(List.length s.c9):Int))) (sl ((cnE tP s.c9)&&true) (sl (Nat.beq t1.1 1) (k ⟨0,t1.2.c9,(W (s.is4+1)),0,[]⟩) (sl (Nat.beq t1.1 2) (k ⟨1,t1.2.c9,(W (s.is4+1)),t1.2.ns3,t1.2.eh0⟩) z)) z) (e 1))
noncomputable def Q4 {α:Type} (k:A2→α) (e:Nat→α) (z:α) (p:R8) (s:A2):α:=let t1:=(lp (J7 (⟨s.is4⟩:L7)) (⟨1,(rt tP s.c9),(W (s.is4+1)),s.ns3,s.eh0⟩:r5));(sl (decide (s.is4 < (↑(List.length s.c9):Int))) (sl ((cnE tP s.c9)&&true) (sl (Nat.beq t1.1 1) (k ⟨0,t1.2.c9,(W (s.is4+1)),0,[]⟩) (sl (Nat.beq t1.1 2) (k ⟨1,t1.2.c9,(W (s.is4+1)),t1.2.ns3,t1.2.eh0⟩) z)) z) (e 2))
noncomputable def N5 (p:R8) (s:A2):Stp A2:=(sel (Nat.beq s.ph 1) (Q4 .next .exit .fail p s) (Q3 .next .exit .fail p s))
noncomputable def Ta4:Lo R8 A2:=⟨En Ga6,0,fe3,[1,1,0,1,4,4],[0,3,4],(.s .p (.s (.b (.s .p (.b (.u Ta3.ls)))) .p)),[⟨((.s (.c 4 (nL tP)))::((.s (.o .unk))::((.s (.o .unk))::((.s (.o .nil))::((.s (.o (.int .i64)))::(ru2 59 [])))))),[],fun a H=>(⟨⟩,⟨0,(rL tP (slT a 0)),(toI (slT a 4)),0,[]⟩)⟩,⟨((.s (.c 4 (nL tP)))::((.s (.o .unk))::((.s (.o .unk))::((.s (.o (.sl 0 0 (some 0) none)))::((.s (.o (.int .i64)))::(ru2 59 [])))))),[⟨54,4,true,none⟩],fun a H=>(⟨⟩,⟨1,(rL tP (slT a 0)),(toI (slT a 4)),(slN (slT a 3)),(elT H 0)⟩)⟩],N5,[(some 0,fun p s=>⟨((eL tP s.c9)::(.unk::(.unk::((.v (.slice none 0 0))::((i s.is4)::(ra 4 ((i s.is4)::((eL tP s.c9)::((i (↑(List.length s.c9):Int))::((b (decide (s.is4 < (↑(List.length s.c9):Int))))::(ra 51 []))))))))))),[]⟩),(some 0,fun p s=>⟨((eL tP s.c9)::(.unk::(.unk::((.sl 0 0 s.ns3 0)::((i s.is4)::(ra 4 ((i s.is4)::((eL tP s.c9)::((i (↑(List.length s.c9):Int))::((b (decide (s.is4 < (↑(List.length s.c9):Int))))::(ra 51 []))))))))))),[⟨54,4,s.eh0,true,false,0⟩]⟩)],fc1⟩
theorem fc2:Ta4.Ok:=Lo.ok [Ta3.pr] (by kernel_rfl) (.cons fc0 .nil) rfl (.cons (fun a H=>by kernel_rfl) (.cons (fun a H=>by kernel_rfl) .nil)) fun p s=>(.sel (Nat.beq s.ph 1) (.of @Q4 (fun F _ _ _ _ _=>by unfold Q4;(repeat' apply o0 (f:=F))<;>rfl) (by kernel_rfl)) (.of @Q3 (fun F _ _ _ _ _=>by unfold Q3;(repeat' apply o0 (f:=F))<;>rfl) (by kernel_rfl)))
noncomputable def za9 (x:List Pln):Option (b7×List b8):=let t1:=(lp (N5 (⟨⟩:R8)) (⟨0,(rt tP x),0,0,[]⟩:A2));(sl ((cnE tP x)&&true) (sl (Nat.beq t1.1 1) (some ((.v (.slice none 0 0)),[])) (sl (Nat.beq t1.1 2) (some ((.sl 0 0 t1.2.ns3 0),[⟨54,4,t1.2.eh0,true,false,0⟩])) none)) none)
noncomputable def Oa0 (x:List Pln):List Pt:=P4 (one (r1L tX)) (za9 x)
noncomputable def Oa1 (x:List Pln):Bool:=okO (one (r1L tX)) (za9 x)
noncomputable def Nb1:Sum:=ja7 (ia2 tP) (fun x=>.guard (Oa1 x) (.ret ((one (r1L tX)).enc (Oa0 x),[])))
theorem xc6:j6 prog G 90 Nb1:=Da0 (bd b90 nc0) (one (r1L tX)) (o:=za9) fun x=>Da2 (.s .p (.s .p (.s (.s .p (.b (.u Ta4.ls))) .p))) [Ta4.pr] (by kernel_rfl) (.cons fc2 .nil) (by kernel_rfl)
noncomputable def jb1:List (Nat×Sum):=[]
theorem Qb5:l5 prog G jb1:=trivial
@[reducible] noncomputable def xa5:Sum:=l4 (En jb1) me8
theorem Ga7:j6 prog G 166 xa5:=bd Ne5 Qb5
noncomputable def nc1:List (Nat×Sum):=[]
theorem fc3:l5 prog G nc1:=trivial
noncomputable def ua2 (x:Int):Option (b7×List b8):=(sl (decide (x < 0)) (some ((i (W (0 - x))),[])) (some ((i x),[])))
noncomputable def ma1 (x:Int):Int:=P4 (one r1I) (ua2 x)
noncomputable def ma2 (x:Int):Bool:=okO (one r1I) (ua2 x)
noncomputable def Db7:Sum:=ja7 cI (fun x=>.guard (ma2 x) (.ret ((one r1I).enc (ma1 x),[])))
theorem nc2:j6 prog G 215 Db7:=Da0 (bd Pe7 fc3) (one r1I) (o:=ua2) fun x=>w6 (by kernel_rfl)
noncomputable def kc6:List (Nat×Sum):=[(215,Db7),(166,xa5)]
theorem Vc7:l5 prog G kc6:=⟨nc2,Ga7,trivial⟩
structure ia3 where
 is6:Int
 f9:Int
 c8:Int
 g7:Int
 da0:Int
 da1:Int
 da2:Int
structure Q5 where
 is5:Int
 is7:Int
noncomputable def Gc7 (p:ia3) (s:Q5):St:=⟨(.unk::((.ptr 0 0 0 0)::((.ptr 1 0 0 0)::(.unk::((.ptr 2 0 0 0)::((i s.is5)::((i p.is6)::((i s.is7)::(ra 38 []))))))))),[⟨0,3,[[(i p.f9),(i p.c8),(i p.g7)]],true,false,0⟩,⟨0,3,[[(i 0),(i 0),(i 0)]],true,false,0⟩,⟨0,3,[[(i p.da0),(i p.da1),(i p.da2)]],true,false,0⟩]⟩
noncomputable def ua3 {α:Type} (k:Q5→α) (e:Nat→α) (z:α) (p:ia3) (s:Q5):α:=(sl (decide (s.is7 > 0)) (sl (s.is7==0) z (k ⟨s.is7,(Int.tmod s.is5 s.is7)⟩)) (e 1))
noncomputable def da4 (p:ia3) (s:Q5):Stp Q5:=ua3 .next .exit .fail p s
noncomputable def sb9:Lo ia3 Q5:=⟨En kc6,0,me9,[1,1,1,0,1,4,4,1,0,4,1,1,4,4],[1,2,4,5,6,7],.p,[⟨((.s (.o .unk))::((.s (.o (.ptr 0 0 0 0)))::((.s (.o (.ptr 1 0 0 0)))::((.s (.o .unk))::((.s (.o (.ptr 2 0 0 0)))::((.s (.o (.int .i64)))::((.s (.o (.int .i64)))::((.s (.o (.int .i64)))::(ru2 38 []))))))))),[⟨0,3,true,(some [[(.o (.int .i64)),(.o (.int .i64)),(.o (.int .i64))]])⟩,⟨0,3,true,(some [[(.o (.lit .i64 0)),(.o (.lit .i64 0)),(.o (.lit .i64 0))]])⟩,⟨0,3,true,(some [[(.o (.int .i64)),(.o (.int .i64)),(.o (.int .i64))]])⟩],fun a H=>(⟨(toI (slT a 6)),(toI (slT (rwT (elT H 0) 0) 0)),(toI (slT (rwT (elT H 0) 0) 1)),(toI (slT (rwT (elT H 0) 0) 2)),(toI (slT (rwT (elT H 2) 0) 0)),(toI (slT (rwT (elT H 2) 0) 1)),(toI (slT (rwT (elT H 2) 0) 2))⟩,⟨(toI (slT a 5)),(toI (slT a 7))⟩)⟩],da4,[(some 2,fun p s=>⟨(.unk::((.ptr 0 0 0 0)::((.ptr 1 0 0 0)::(.unk::((.ptr 2 0 0 0)::((i s.is5)::((i p.is6)::((i s.is7)::(ra 15 ((i s.is7)::((b (decide (s.is7 > 0)))::(ra 21 [])))))))))))),[⟨0,3,[[(i p.f9),(i p.c8),(i p.g7)]],true,false,0⟩,⟨0,3,[[(i 0),(i 0),(i 0)]],true,false,0⟩,⟨0,3,[[(i p.da0),(i p.da1),(i p.da2)]],true,false,0⟩]⟩)],Gc7⟩
theorem Gc8:sb9.Ok:=Lo.ok [] (by kernel_rfl) .nil rfl (.cons (fun a H=>by kernel_rfl) .nil) fun p s=>(.of @ua3 (fun F _ _ _ _ _=>by unfold ua3;(repeat' apply o0 (f:=F))<;>rfl) (by kernel_rfl))
noncomputable def bb9 (x:V3):Option (b7×List b8):=let t1:=(ma1 x.x);let t2:=(lp (da4 (⟨0,x.x,x.y,x.z,x.x,x.y,x.z⟩:ia3)) (⟨0,t1⟩:Q5));let t3:=(ma1 x.y);let t4:=(lp (da4 (⟨1,x.x,x.y,x.z,x.x,x.y,x.z⟩:ia3)) (⟨t2.2.is5,t3⟩:Q5));let t5:=(ma1 x.z);let t6:=(lp (da4 (⟨2,x.x,x.y,x.z,x.x,x.y,x.z⟩:ia3)) (⟨t4.2.is5,t5⟩:Q5));(sl (x.x==(-9223372036854775808)) (some ((.tup [(.agg [(i 0),(i 0),(i 0)]),(i 0)]),[])) (sl (ma2 x.x) (sl (Nat.beq t2.1 1) (sl (x.y==(-9223372036854775808)) (some ((.tup [(.agg [(i 0),(i 0),(i 0)]),(i 0)]),[])) (sl (ma2 x.y) (sl (Nat.beq t4.1 1) (sl (x.z==(-9223372036854775808)) (some ((.tup [(.agg [(i 0),(i 0),(i 0)]),(i 0)]),[])) (sl (ma2 x.z) (sl (Nat.beq t6.1 1) (sl (t6.2.is5==0) (some ((.tup [(.agg [(i 0),(i 0),(i 0)]),(i 0)]),[])) (sl (t6.2.is5==0) none (sl (t6.2.is5==0) none (sl (t6.2.is5==0) none (some ((.tup [(.agg [(i (W (Int.tdiv x.x t6.2.is5))),(i (W (Int.tdiv x.y t6.2.is5))),(i (W (Int.tdiv x.z t6.2.is5)))]),(i t6.2.is5)]),[])))))) none) none)) none) none)) none) none))
noncomputable def Da3 (x:V3):V3×Int:=P4 (two r1V r1I) (bb9 x)
noncomputable def cb0 (x:V3):Bool:=okO (two r1V r1I) (bb9 x)
noncomputable def Qb6:Sum:=ja7 (W9 tV) (fun x=>.guard (cb0 x) (.ret ((two r1V r1I).enc (Da3 x),[])))
theorem kc7:j6 prog G 167 Qb6:=Da0 (bd Ne6 Vc7) (two r1V r1I) (o:=bb9) fun x=>Da2 (.s .p (.s .p (.s .p (.s (.s .p (.b (.l (.s .p (.s (.b (.s .p (.s .p (.b (.u sb9.ls))))) .p))))) .p)))) [sb9.pr] (by kernel_rfl) (.cons Gc8 .nil) (by kernel_rfl)
noncomputable def Vc8:List (Nat×Sum):=[(167,Qb6),(166,xa5)]
theorem Gc9:l5 prog G Vc8:=⟨kc7,Ga7,trivial⟩
noncomputable def Pa7 (x:Pln):Option (b7×List b8):=let t1:=(Da3 x.n);(sl (decide (x.n.x < (-4608))) (some ((b false),[])) (sl (decide (x.n.x > 4608)) (some ((b false),[])) (sl (decide (x.n.y < (-4608))) (some ((b false),[])) (sl (decide (x.n.y > 4608)) (some ((b false),[])) (sl (decide (x.n.z < (-4608))) (some ((b false),[])) (sl (decide (x.n.z > 4608)) (some ((b false),[])) (sl (cb0 x.n) (sl (t1.2==1) (sl (decide (x.b≥(-2097152))) (some ((b (decide (x.b≤2097152))),[])) (some ((b false),[]))) (some ((b false),[]))) none)))))))
noncomputable def Pa8 (x:Pln):Bool:=P4 (one r1B) (Pa7 x)
noncomputable def Pa9 (x:Pln):Bool:=okO (one r1B) (Pa7 x)
noncomputable def Db8:Sum:=ja7 (W9 tP) (fun x=>.guard (Pa9 x) (.ret ((one r1B).enc (Pa8 x),[])))
theorem Xb2:j6 prog G 86 Db8:=Da0 (bd b86 Gc9) (one r1B) (o:=Pa7) fun x=>w6 (by kernel_rfl)
noncomputable def Xb3:List (Nat×Sum):=[(86,Db8)]
theorem Hc0:l5 prog G Xb3:=⟨Xb2,trivial⟩
structure Aa0 where
 c9:List Pln
structure V6 where
 is3:Int
noncomputable def xc7 (p:Aa0) (s:V6):St:=⟨((eL tP p.c9)::(.unk::(.unk::((i s.is3)::(ra 15 []))))),[]⟩
noncomputable def qa0 {α:Type} (k:V6→α) (e:Nat→α) (z:α) (p:Aa0) (s:V6):α:=let t1:=(Pa8 (gL tP p.c9 s.is3.toNat));(sl (decide (s.is3 < (↑(List.length p.c9):Int))) (sl (inB s.is3 (List.length p.c9)) (sl (Pa9 (gL tP p.c9 s.is3.toNat)) (sl (!t1) (e 1) (k ⟨(W (s.is3+1))⟩)) z) z) (e 2))
noncomputable def ua4 (p:Aa0) (s:V6):Stp V6:=qa0 .next .exit .fail p s
noncomputable def kb8:Lo Aa0 V6:=⟨En Xb3,0,Ae6,[1,1,0,1,4,4],[0,3],.p,[⟨((.s (.c 4 (nL tP)))::((.s (.o .unk))::((.s (.o .unk))::((.s (.o (.int .i64)))::(ru2 15 []))))),[],fun a H=>(⟨(rL tP (slT a 0))⟩,⟨(toI (slT a 3))⟩)⟩],ua4,[(none,fun p s=>⟨[(i 12)],[]⟩),(some 0,fun p s=>⟨((eL tP p.c9)::(.unk::(.unk::((i s.is3)::(ra 3 ((i s.is3)::((eL tP p.c9)::((i (↑(List.length p.c9):Int))::((b (decide (s.is3 < (↑(List.length p.c9):Int))))::(ra 8 [])))))))))),[]⟩)],xc7⟩
theorem xc8:kb8.Ok:=Lo.ok [] (by kernel_rfl) .nil rfl (.cons (fun a H=>by kernel_rfl) .nil) fun p s=>(.of @qa0 (fun F _ _ _ _ _=>by unfold qa0;(repeat' apply o0 (f:=F))<;>rfl) (by kernel_rfl))
noncomputable def Qa0 (x:List Pln):Option (b7×List b8):=let t1:=(lp (ua4 (⟨(rt tP x)⟩:Aa0)) (⟨0⟩:V6));(sl (decide ((↑(List.length x):Int) > 48)) (some ((i 2),[])) (sl ((cnE tP x)&&true) (sl (Nat.beq t1.1 1) (some ((i 12),[])) (sl (Nat.beq t1.1 2) (some ((i 0),[])) none)) none))
noncomputable def jb2 (x:List Pln):Int:=P4 (one r1I) (Qa0 x)
noncomputable def jb3 (x:List Pln):Bool:=okO (one r1I) (Qa0 x)
noncomputable def kc8:Sum:=ja7 (ia2 tP) (fun x=>.guard (jb3 x) (.ret ((one r1I).enc (jb2 x),[])))
theorem Vc9:j6 prog G 16 kc8:=Da0 (bd b16 Hc0) (one r1I) (o:=Qa0) fun x=>Da2 (.s .p (.s .p (.s (.s .p (.b (.u kb8.ls))) .p))) [kb8.pr] (by kernel_rfl) (.cons xc8 .nil) (by kernel_rfl)
noncomputable def vd7:List (Nat×Sum):=[]
theorem jd8:l5 prog G vd7:=trivial
noncomputable def Jb3 (x:V3) (y:V3):Option (b7×List b8):=(some ((.sl 0 0 6 0),[⟨50,4,[[(i 1),(i 0),(i 0),(i y.x)],[(i (-1)),(i 0),(i 0),(i (W (0 - x.x)))],[(i 0),(i 1),(i 0),(i y.y)],[(i 0),(i (-1)),(i 0),(i (W (0 - x.y)))],[(i 0),(i 0),(i 1),(i y.z)],[(i 0),(i 0),(i (-1)),(i (W (0 - x.z)))]],true,false,0⟩]))
noncomputable def ob6 (x:V3) (y:V3):List Pln:=P4 (one (r1L tP)) (Jb3 x y)
noncomputable def Za4 (x:V3) (y:V3):Bool:=okO (one (r1L tP)) (Jb3 x y)
noncomputable def fc4:Sum:=la2 (W9 tV) (W9 tV) (fun x y=>.guard (Za4 x y) (.ret ((one (r1L tP)).enc (ob6 x y),[])))
theorem xc9:j6 prog G 111 fc4:=nb9 (bd Ee3 jd8) (one (r1L tP)) (o:=Jb3) fun x y=>w6 (by kernel_rfl)
noncomputable def vd8:List (Nat×Sum):=[(111,fc4)]
theorem jd9:l5 prog G vd8:=⟨xc9,trivial⟩
noncomputable def ob7 (x:List Pln):Option (b7×List b8):=let t1:=(ob6 (⟨(-24),(-24),(-24)⟩:V3) (⟨24,24,24⟩:V3));(sl (Nat.beq (len (n7 (fun k=>(tP).row (gL tP x k)) (List.range (List.length x)))) 0) (sl (Za4 (⟨(-24),(-24),(-24)⟩:V3) (⟨24,24,24⟩:V3)) (sl (Nat.beq (len (n7 (fun k=>(tP).row (gL tP t1 k)) (List.range (List.length t1)))) 0) (some ((.sl 0 0 0 0),[⟨50,4,[],true,false,0⟩])) (sl (Nat.beq 0 0&&Nat.ble ((0+(len (n7 (fun k=>(tP).row (gL tP t1 k)) (List.range (List.length t1)))))*32) room) (some ((.sl 0 0 (0+(len (n7 (fun k=>(tP).row (gL tP t1 k)) (List.range (List.length t1))))) 0),[⟨50,4,(app [] (n7 (fun k=>(tP).row (gL tP t1 k)) (List.range (List.length t1)))),true,false,0⟩])) none)) none) (sl (Nat.beq 0 0&&Nat.ble ((0+(len (n7 (fun k=>(tP).row (gL tP x k)) (List.range (List.length x)))))*32) room) (sl (Za4 (⟨(-24),(-24),(-24)⟩:V3) (⟨24,24,24⟩:V3)) (sl (Nat.beq (len (n7 (fun k=>(tP).row (gL tP t1 k)) (List.range (List.length t1)))) 0) (some ((.sl 0 0 (0+(len (n7 (fun k=>(tP).row (gL tP x k)) (List.range (List.length x))))) 0),[⟨50,4,(app [] (n7 (fun k=>(tP).row (gL tP x k)) (List.range (List.length x)))),true,false,0⟩])) (sl (Nat.beq (0+(len (n7 (fun k=>(tP).row (gL tP x k)) (List.range (List.length x))))) (len (app [] (n7 (fun k=>(tP).row (gL tP x k)) (List.range (List.length x)))))&&Nat.ble (((0+(len (n7 (fun k=>(tP).row (gL tP x k)) (List.range (List.length x)))))+(len (n7 (fun k=>(tP).row (gL tP t1 k)) (List.range (List.length t1)))))*32) room) (some ((.sl 0 0 ((0+(len (n7 (fun k=>(tP).row (gL tP x k)) (List.range (List.length x)))))+(len (n7 (fun k=>(tP).row (gL tP t1 k)) (List.range (List.length t1))))) 0),[⟨50,4,(app (app [] (n7 (fun k=>(tP).row (gL tP x k)) (List.range (List.length x)))) (n7 (fun k=>(tP).row (gL tP t1 k)) (List.range (List.length t1)))),true,false,0⟩])) none)) none) none))
noncomputable def Jb4 (x:List Pln):List Pln:=P4 (one (r1L tP)) (ob7 x)
noncomputable def Jb5 (x:List Pln):Bool:=okO (one (r1L tP)) (ob7 x)
noncomputable def Pc6:Sum:=ja7 (ia2 tP) (fun x=>.guard (Jb5 x) (.ret ((one (r1L tP)).enc (Jb4 x),[])))
theorem vd9:j6 prog G 91 Pc6:=Da0 (bd b91 jd9) (one (r1L tP)) (o:=ob7) fun x=>w6 (by kernel_rfl)
noncomputable def Db9:List (Nat×Sum):=[(90,Nb1),(37,sb8)]
theorem Wc0:l5 prog G Db9:=⟨xc6,Db4,trivial⟩
structure Ga8 where
 c9:List Pln
 Wa3:List Pt
 is4:Int
structure ia4 where
 bs5:Bool
 is6:Int
noncomputable def Hc1 (p:Ga8) (s:ia4):St:=⟨((eL tP p.c9)::(.unk::(.unk::((eL tX p.Wa3)::((i p.is4)::((b s.bs5)::((i s.is6)::(ra 29 [])))))))),[]⟩
noncomputable def ua5 {α:Type} (k:ia4→α) (e:Nat→α) (z:α) (p:Ga8) (s:ia4):α:=let t1:=(La5 (gL tP p.c9 p.is4.toNat) (gL tX p.Wa3 s.is6.toNat));(sl (decide (s.is6 < (↑(List.length p.Wa3):Int))) (sl s.bs5 (k ⟨true,(W (s.is6+1))⟩) (sl (inB p.is4 (List.length p.c9)) (sl (inB s.is6 (List.length p.Wa3)) (k ⟨(decide (t1 > 0)),(W (s.is6+1))⟩) z) z)) (e 1))
noncomputable def sa0 (p:Ga8) (s:ia4):Stp ia4:=ua5 .next .exit .fail p s
noncomputable def tb0:Lo Ga8 ia4:=⟨En Db9,0,se8,[1,1,0,1,4,4,1,0,4,1,0,1,4,4],[0,3,4,5,6],.p,[⟨((.s (.c 4 (nL tP)))::((.s (.o .unk))::((.s (.o .unk))::((.s (.c 4 (nL tX)))::((.s (.o (.int .i64)))::((.s (.o .bool))::((.s (.o (.int .i64)))::(ru2 29 [])))))))),[],fun a H=>(⟨(rL tP (slT a 0)),(rL tX (slT a 3)),(toI (slT a 4))⟩,⟨(toB (slT a 5)),(toI (slT a 6))⟩)⟩],sa0,[(some 2,fun p s=>⟨((eL tP p.c9)::(.unk::(.unk::((eL tX p.Wa3)::((i p.is4)::((b s.bs5)::((i s.is6)::(ra 8 ((i s.is6)::((eL tX p.Wa3)::((i (↑(List.length p.Wa3):Int))::((b (decide (s.is6 < (↑(List.length p.Wa3):Int))))::(ra 17 []))))))))))))),[]⟩)],Hc1⟩
theorem Hc2:tb0.Ok:=Lo.ok [] (by kernel_rfl) .nil rfl (.cons (fun a H=>by kernel_rfl) .nil) fun p s=>(.of @ua5 (fun F _ _ _ _ _=>by unfold ua5;(repeat' apply o0 (f:=F))<;>rfl) (by kernel_rfl))
structure Ga9 where
structure aa7 where
 c9:List Pln
 Wa3:List Pt
 is4:Int
noncomputable def Hc3 (p:Ga9) (s:aa7):St:=⟨((eL tP s.c9)::(.unk::(.unk::((eL tX s.Wa3)::((i s.is4)::(ra 31 [])))))),[]⟩
noncomputable def ua6 {α:Type} (k:aa7→α) (e:Nat→α) (z:α) (p:Ga9) (s:aa7):α:=let t1:=(lp (sa0 (⟨(rt tP s.c9),(rt tX s.Wa3),s.is4⟩:Ga8)) (⟨false,0⟩:ia4));(sl (decide (s.is4 < (↑(List.length s.c9):Int))) (sl ((cnE tP s.c9)&&((cnE tX s.Wa3)&&true)) (sl (Nat.beq t1.1 1) (sl (!t1.2.bs5) (e 1) (k ⟨(rt tP s.c9),(rt tX s.Wa3),(W (s.is4+1))⟩)) z) z) (e 2))
noncomputable def Aa1 (p:Ga9) (s:aa7):Stp aa7:=ua6 .next .exit .fail p s
noncomputable def tb1:Lo Ga9 aa7:=⟨En Db9,0,se8,[1,1,0,1,4,4],[0,3,4],(.s .p (.s (.b (.s .p (.s (.s .p (.b (.u tb0.ls))) .p))) .p)),[⟨((.s (.c 4 (nL tP)))::((.s (.o .unk))::((.s (.o .unk))::((.s (.c 4 (nL tX)))::((.s (.o (.int .i64)))::(ru2 31 [])))))),[],fun a H=>(⟨⟩,⟨(rL tP (slT a 0)),(rL tX (slT a 3)),(toI (slT a 4))⟩)⟩],Aa1,[(none,fun p s=>⟨[(b false)],[]⟩),(some 0,fun p s=>⟨((eL tP s.c9)::(.unk::(.unk::((eL tX s.Wa3)::((i s.is4)::(ra 4 ((i s.is4)::((eL tP s.c9)::((i (↑(List.length s.c9):Int))::((b (decide (s.is4 < (↑(List.length s.c9):Int))))::(ra 23 []))))))))))),[]⟩)],Hc3⟩
theorem Hc4:tb1.Ok:=Lo.ok [tb0.pr] (by kernel_rfl) (.cons Hc2 .nil) rfl (.cons (fun a H=>by kernel_rfl) .nil) fun p s=>(.of @ua6 (fun F _ _ _ _ _=>by unfold ua6;(repeat' apply o0 (f:=F))<;>rfl) (by kernel_rfl))
noncomputable def cb1 (x:List Pln):Option (b7×List b8):=let t1:=(Oa0 (rt tP x));let t2:=(lp (Aa1 (⟨⟩:Ga9)) (⟨(rt tP x),(rt tX t1),0⟩:aa7));(sl (okE tP x) (sl (Oa1 (rt tP x)) (sl ((cnE tP x)&&((cnE tX t1)&&true)) (sl (Nat.beq t2.1 1) (some ((b false),[])) (sl (Nat.beq t2.1 2) (some ((b true),[])) none)) none) none) none)
noncomputable def tb2 (x:List Pln):Bool:=P4 (one r1B) (cb1 x)
noncomputable def tb3 (x:List Pln):Bool:=okO (one r1B) (cb1 x)
noncomputable def yc0:Sum:=ja7 (ia2 tP) (fun x=>.guard (tb3 x) (.ret ((one r1B).enc (tb2 x),[])))
theorem kd0:j6 prog G 93 yc0:=Da0 (bd b93 Wc0) (one r1B) (o:=cb1) fun x=>Da2 (.s .p (.s .p (.s (.s .p (.b (.u tb1.ls))) .p))) [tb1.pr] (by kernel_rfl) (.cons Hc4 .nil) (by kernel_rfl)
noncomputable def kd1:List (Nat×Sum):=[(16,kc8),(91,Pc6),(93,yc0)]
theorem Wc1:l5 prog G kd1:=⟨Vc9,vd9,kd0,trivial⟩
noncomputable def cb2 (x:List Pln):Option (b7×List b8):=let t1:=(jb2 (rt tP x));let t2:=(Jb4 (rt tP x));let t3:=(tb2 (rt tP t2));(sl (okE tP x) (sl (jb3 (rt tP x)) (sl (t1==0) (sl (okE tP x) (sl (Jb5 (rt tP x)) (sl (okE tP t2) (sl (tb3 (rt tP t2)) (some ((b t3),[])) none) none) none) none) (some ((b false),[]))) none) none)
noncomputable def La6 (x:List Pln):Bool:=P4 (one r1B) (cb2 x)
noncomputable def Da4 (x:List Pln):Bool:=okO (one r1B) (cb2 x)
noncomputable def yc1:Sum:=ja7 (ia2 tP) (fun x=>.guard (Da4 x) (.ret ((one r1B).enc (La6 x),[])))
theorem kd2:j6 prog G 21 yc1:=Da0 (bd b21 Wc1) (one r1B) (o:=cb2) fun x=>w6 (by kernel_rfl)
noncomputable def wd0:List (Nat×Sum):=[]
theorem kd3:l5 prog G wd0:=trivial
noncomputable def ob8 (x:Int) (y:Int):Option (b7×List b8):=(sl (decide (y < 1)) (some ((i 0),[])) (sl (y==0) none (sl (y==0) none (some ((i (Int.tmod (W ((Int.tmod x y)+y)) y)),[])))))
noncomputable def ob9 (x:Int) (y:Int):Int:=P4 (one r1I) (ob8 x y)
noncomputable def Za5 (x:Int) (y:Int):Bool:=okO (one r1I) (ob8 x y)
noncomputable def fc5:Sum:=la2 cI cI (fun x y=>.guard (Za5 x y) (.ret ((one r1I).enc (ob9 x y),[])))
theorem yc2:j6 prog G 47 fc5:=nb9 (bd b47 kd3) (one r1I) (o:=ob8) fun x y=>w6 (by kernel_rfl)
structure be2 where
 Ie0:List Pt
structure be3 where
 is8:Int
 da0:Int
 da1:Int
 da2:Int
 Kb2:Int
 Kb3:Int
 Kb4:Int
end Go.Ev.Ce
end
section
namespace Go.Ev.Ce
open Go Go.Ev Go.Ev.L Go.Proofs
set_option maxRecDepth 100000
noncomputable def Wc2:List (Nat×Sum):=[]
theorem Hc5:l5 prog G Wc2:=trivial
noncomputable def Ea8 (x:V3) (y:V3):Int:=(W ((W ((W (x.x*y.x))+(W (x.y*y.y))))+(W (x.z*y.z))))
noncomputable def Eb0:Sum:=la2 (W9 tV) (W9 tV) (fun x y=>.ret ((one r1I).enc (Ea8 x y),[]))
theorem Xb4:j6 prog G 129 Eb0:=ta3 (bd Me9 Hc5) fun x y=>w6 (by kernel_rfl)
noncomputable def Wc3:List (Nat×Sum):=[]
theorem Hc6:l5 prog G Wc3:=trivial
noncomputable def oa8 (x:V3) (y:V3):V3:=(⟨(W (x.x+y.x)),(W (x.y+y.y)),(W (x.z+y.z))⟩:V3)
noncomputable def kc9:Sum:=la2 (W9 tV) (W9 tV) (fun x y=>.ret ((one r1V).enc (oa8 x y),[]))
theorem Wc4:j6 prog G 54 kc9:=ta3 (bd b54 Hc6) fun x y=>w6 (by kernel_rfl)
noncomputable def Hc7:List (Nat×Sum):=[]
theorem yc3:l5 prog G Hc7:=trivial
noncomputable def Q6 (x:V3) (y:Int):V3:=(⟨(W (x.x*y)),(W (x.y*y)),(W (x.z*y))⟩:V3)
noncomputable def tb4:Sum:=la2 (W9 tV) cI (fun x y=>.ret ((one r1V).enc (Q6 x y),[]))
theorem Nb2:j6 prog G 94 tb4:=ta3 (bd b94 yc3) fun x y=>w6 (by kernel_rfl)
noncomputable def yc4:List (Nat×Sum):=[]
theorem nc3:l5 prog G yc4:=trivial
noncomputable def O8 (x:V3) (y:V3):V3:=(⟨(W ((W (x.y*y.z)) - (W (x.z*y.y)))),(W ((W (x.z*y.x)) - (W (x.x*y.z)))),(W ((W (x.x*y.y)) - (W (x.y*y.x))))⟩:V3)
noncomputable def Nb3:Sum:=la2 (W9 tV) (W9 tV) (fun x y=>.ret ((one r1V).enc (O8 x y),[]))
theorem yc5:j6 prog G 142 Nb3:=ta3 (bd Ne1 nc3) fun x y=>w6 (by kernel_rfl)
noncomputable def Wc5:List (Nat×Sum):=[(129,Eb0)]
theorem Hc8:l5 prog G Wc5:=⟨Xb4,trivial⟩
noncomputable def oa9 (x:Pln) (y:Pt):Int:=let t1:=(Ea8 x.n (⟨y.px,y.py,y.pz⟩:V3));(W ((W (x.b*y.pw)) - t1))
noncomputable def jb4:Sum:=la2 (W9 tP) (W9 tX) (fun x y=>.ret ((one r1I).enc (oa9 x y),[]))
theorem tb5:j6 prog G 102 jb4:=ta3 (bd Le5 Hc8) fun x y=>w6 (by kernel_rfl)
noncomputable def Eb1:List (Nat×Sum):=[]
theorem Wc6:l5 prog G Eb1:=trivial
structure xa6 where
 za1:List Int
 is7:Int
 is8:Int
structure ia5 where
 is3:Int
 is5:Int
noncomputable def Hc9 (p:xa6) (s:ia5):St:=⟨(ra 3 ((i s.is3)::(.unk::((i s.is5)::((eL tI p.za1)::((i p.is7)::((i p.is8)::(ra 14 [])))))))),[]⟩
noncomputable def ua7 {α:Type} (k:ia5→α) (e:Nat→α) (z:α) (p:xa6) (s:ia5):α:=(sl (s.is5 != 0) (sl (s.is5==0) z (k ⟨s.is5,(Int.tmod s.is3 s.is5)⟩)) (e 1))
noncomputable def Aa2 (p:xa6) (s:ia5):Stp ia5:=ua7 .next .exit .fail p s
noncomputable def tb6:Lo xa6 ia5:=⟨En Eb1,0,Sd8,[1,1,0,1,4,4,1,1,0,4,1,4,4],[3,5,6,7,8],.p,[⟨(ru2 3 ((.s (.o (.int .i64)))::((.s (.o .unk))::((.s (.o (.int .i64)))::((.s (.c 1 (nL tI)))::((.s (.o (.int .i64)))::((.s (.o (.int .i64)))::(ru2 14 [])))))))),[],fun a H=>(⟨(rL tI (slT a 6)),(toI (slT a 7)),(toI (slT a 8))⟩,⟨(toI (slT a 3)),(toI (slT a 5))⟩)⟩],Aa2,[(some 2,fun p s=>⟨(ra 3 ((i s.is3)::(.unk::((i s.is5)::((eL tI p.za1)::((i p.is7)::((i p.is8)::(ra 3 ((i s.is5)::((b (s.is5 != 0))::(ra 9 []))))))))))),[]⟩)],Hc9⟩
theorem Ic0:tb6.Ok:=Lo.ok [] (by kernel_rfl) .nil rfl (.cons (fun a H=>by kernel_rfl) .nil) fun p s=>(.of @ua7 (fun F _ _ _ _ _=>by unfold ua7;(repeat' apply o0 (f:=F))<;>rfl) (by kernel_rfl))
structure Ha0 where
 is7:Int
structure ia6 where
 is3:Int
 za1:List Int
 is8:Int
noncomputable def Ic1 (p:Ha0) (s:ia6):St:=⟨(ra 3 ((i s.is3)::(.unk::(.unk::((eL tI s.za1)::((i p.is7)::((i s.is8)::(ra 14 [])))))))),[]⟩
noncomputable def ua8 {α:Type} (k:ia6→α) (e:Nat→α) (z:α) (p:Ha0) (s:ia6):α:=let t1:=(lp (Aa2 (⟨(rt tI s.za1),p.is7,s.is8⟩:xa6)) (⟨s.is3,(gL tI s.za1 s.is8.toNat)⟩:ia5));(sl (decide (s.is8 < p.is7)) (sl (inB s.is8 (List.length s.za1)) (sl ((cnE tI s.za1)&&true) (sl (Nat.beq t1.1 1) (k ⟨t1.2.is3,(rt tI s.za1),(W (s.is8+1))⟩) z) z) z) (e 1))
noncomputable def sa1 (p:Ha0) (s:ia6):Stp ia6:=ua8 .next .exit .fail p s
noncomputable def tb7:Lo Ha0 ia6:=⟨En Eb1,0,Sd8,[1,1,0,1,4,4],[3,6,7,8],(.s .p (.s .p (.s (.b (.s .p (.b (.u tb6.ls)))) .p))),[⟨(ru2 3 ((.s (.o (.int .i64)))::((.s (.o .unk))::((.s (.o .unk))::((.s (.c 1 (nL tI)))::((.s (.o (.int .i64)))::((.s (.o (.int .i64)))::(ru2 14 [])))))))),[],fun a H=>(⟨(toI (slT a 7))⟩,⟨(toI (slT a 3)),(rL tI (slT a 6)),(toI (slT a 8))⟩)⟩],sa1,[(some 0,fun p s=>⟨(ra 3 ((i s.is3)::(.unk::(.unk::((eL tI s.za1)::((i p.is7)::((i s.is8)::((b (decide (s.is8 < p.is7)))::(ra 13 []))))))))),[]⟩)],Ic1⟩
theorem Ic2:tb7.Ok:=Lo.ok [tb6.pr] (by kernel_rfl) (.cons Ic0 .nil) rfl (.cons (fun a H=>by kernel_rfl) .nil) fun p s=>(.of @ua8 (fun F _ _ _ _ _=>by unfold ua8;(repeat' apply o0 (f:=F))<;>rfl) (by kernel_rfl))
noncomputable def cb3 (x:List Int):Option (b7×List b8):=let t1:=(lp (sa1 (⟨(↑(List.length x):Int)⟩:Ha0)) (⟨0,(rt tI x),0⟩:ia6));(sl ((cnE tI x)&&true) (sl (Nat.beq t1.1 1) (some ((i (if (W (0 - t1.2.is3)) > t1.2.is3 then (W (0 - t1.2.is3)) else t1.2.is3)),[])) none) none)
noncomputable def tb8 (x:List Int):Int:=P4 (one r1I) (cb3 x)
noncomputable def tb9 (x:List Int):Bool:=okO (one r1I) (cb3 x)
noncomputable def yc6:Sum:=ja7 (ia2 tI) (fun x=>.guard (tb9 x) (.ret ((one r1I).enc (tb8 x),[])))
theorem kd4:j6 prog G 218 yc6:=Da0 (bd Pe9 Wc6) (one r1I) (o:=cb3) fun x=>Da2 (.s .p (.s .p (.s (.s .p (.b (.u tb7.ls))) .p))) [tb7.pr] (by kernel_rfl) (.cons Ic2 .nil) (by kernel_rfl)
noncomputable def Wc7:List (Nat×Sum):=[(142,Nb3),(129,Eb0),(94,tb4),(54,kc9),(218,yc6)]
theorem Ic3:l5 prog G Wc7:=⟨yc5,Xb4,Nb2,Wc4,kd4,trivial⟩
noncomputable def Qa1 (x:Tp):Option (b7×List b8):=let t1:=(O8 x.q.n x.r.n);let t3:=(Q6 t1 x.p.b);let t4:=(oa8 (⟨0,0,0⟩:V3) t3);let t5:=(O8 x.r.n x.p.n);let t7:=(Q6 t5 x.q.b);let t8:=(oa8 t4 t7);let t9:=(O8 x.p.n x.q.n);let t10:=(Ea8 x.r.n t9);let t11:=(Q6 t9 x.r.b);let t12:=(oa8 t8 t11);let t13:=(tb8 [t12.x,t12.y,t12.z,t10]);(sl (t10==0) (some ((.tup [(.agg [(i 0),(i 0),(i 0),(i 0)]),(b false)]),[])) (sl (tb9 [t12.x,t12.y,t12.z,t10]) (sl (decide (t10 < 0)) (sl ((W (0 - t13))==0) none (sl ((W (0 - t13))==0) none (sl ((W (0 - t13))==0) none (sl ((W (0 - t13))==0) none (some ((.tup [(.agg [(i (W (Int.tdiv t12.x (W (0 - t13))))),(i (W (Int.tdiv t12.y (W (0 - t13))))),(i (W (Int.tdiv t12.z (W (0 - t13))))),(i (W (Int.tdiv t10 (W (0 - t13)))))]),(b true)]),[])))))) (sl (t13==0) none (sl (t13==0) none (sl (t13==0) none (sl (t13==0) none (some ((.tup [(.agg [(i (W (Int.tdiv t12.x t13))),(i (W (Int.tdiv t12.y t13))),(i (W (Int.tdiv t12.z t13))),(i (W (Int.tdiv t10 t13)))]),(b true)]),[]))))))) none))
noncomputable def Qa2 (x:Tp):Pt×Bool:=P4 (two r1X r1B) (Qa1 x)
noncomputable def Qa3 (x:Tp):Bool:=okO (two r1X r1B) (Qa1 x)
noncomputable def lc0:Sum:=ja7 (W9 tY) (fun x=>.guard (Qa3 x) (.ret ((two r1X r1B).enc (Qa2 x),[])))
theorem Wc8:j6 prog G 171 lc0:=Da0 (bd Oe0 Ic3) (two r1X r1B) (o:=Qa1) fun x=>w6 (by kernel_rfl)
structure Ba7 where
 oa2:Int
 oa3:Int
 oa4:Int
 fb0:Int
 f9:Int
 c8:Int
 g7:Int
 d9:Int
noncomputable def fc6:List (Nat×Sum):=[(102,jb4)]
theorem Xb5:l5 prog G fc6:=⟨tb5,trivial⟩
structure qa1 where
 bs0:Bool
noncomputable def qa2 {α:Type} (kk:qa1→α) (x:Ba7):α:=let t1:=(oa9 (⟨(⟨x.oa2,x.oa3,x.oa4⟩:V3),x.fb0⟩:Pln) (⟨x.f9,x.c8,x.g7,x.d9⟩:Pt));(kk ⟨(decide (t1 < 0))⟩)
noncomputable def Ta5 (x:Ba7):qa1:=qa2 (fun r=>r) x
noncomputable def La7 (x:Ba7) (r:qa1):DT (b7×List b8):=.ret ((b r.bs0),[⟨0,4,[[(i x.f9),(i x.c8),(i x.g7),(i x.d9)]],true,false,0⟩])
theorem nc4 {α β:Type} (F:α→β) (kk:qa1→α) (x:Ba7):F (qa2 kk x)=qa2 (fun r=>F (kk r)) x:=by unfold qa2;(repeat' apply o0 (f:=F))<;>rfl
noncomputable def wb9:Sum:=ab8 ⟨[(.agg [(.o (.int .i64)),(.o (.int .i64)),(.o (.int .i64)),(.o (.int .i64))]),(.s (.o (.ptr 0 0 0 0)))],[⟨0,4,true,(some [[(.o (.int .i64)),(.o (.int .i64)),(.o (.int .i64)),(.o (.int .i64))]])⟩],fun a H=>(⟨(toI (slT (cellsOf (slT a 0)) 0)),(toI (slT (cellsOf (slT a 0)) 1)),(toI (slT (cellsOf (slT a 0)) 2)),(toI (slT (cellsOf (slT a 0)) 3)),(toI (slT (rwT (elT H 0) 0) 0)),(toI (slT (rwT (elT H 0) 0) 1)),(toI (slT (rwT (elT H 0) 0) 2)),(toI (slT (rwT (elT H 0) 0) 3))⟩,())⟩ (fun x=>La7 x (Ta5 x))
theorem fc7:j6 prog G 181 wb9:=S1 (enc:=fun x=>⟨[(.agg [(i x.oa2),(i x.oa3),(i x.oa4),(i x.fb0)]),(.ptr 0 0 0 0)],[⟨0,4,[[(i x.f9),(i x.c8),(i x.g7),(i x.d9)]],true,false,0⟩]⟩) (fun a H=>by kernel_rfl) (bd Oe8 Xb5) fun x=>w6 (Eq.trans (b:=qa2 (fun r=>(La7 x r).run) x) (by kernel_rfl) (nc4 (fun r=>(La7 x r).run) (fun r=>r) x).symm)
structure S3 where
 c9:List Pln
 f9:Int
 c8:Int
 g7:Int
 d9:Int
noncomputable def ua9:List (Nat×Sum):=[(181,wb9)]
theorem Xa1:l5 prog G ua9:=⟨fc7,trivial⟩
structure G9 where
 c9:List Pln
 is7:Int
 f9:Int
 c8:Int
 g7:Int
 d9:Int
structure o3 where
 is8:Int
noncomputable def Ta6 (p:G9) (s:o3):St:=⟨((eL tP p.c9)::((.fn 181 [(.ptr 0 0 0 0)])::(ra 5 ((i p.is7)::((i s.is8)::(ra 10 [])))))),[⟨0,4,[[(i p.f9),(i p.c8),(i p.g7),(i p.d9)]],true,false,0⟩]⟩
noncomputable def C7 {α:Type} (k:o3→α) (e:Nat→α) (z:α) (p:G9) (s:o3):α:=let t1:=(Ta5 ⟨(gL tP p.c9 s.is8.toNat).n.x,(gL tP p.c9 s.is8.toNat).n.y,(gL tP p.c9 s.is8.toNat).n.z,(gL tP p.c9 s.is8.toNat).b,p.f9,p.c8,p.g7,p.d9⟩);(sl (decide (s.is8 < p.is7)) (sl (inB s.is8 (List.length p.c9)) (sl t1.bs0 (e 1) (k ⟨(W (s.is8+1))⟩)) z) (e 2))
noncomputable def E6 (p:G9) (s:o3):Stp o3:=C7 .next .exit .fail p s
noncomputable def aa8:Lo G9 o3:=⟨En ua9,1,Bd7,[1,0,1,4,4],[0,1,7,8],.p,[⟨((.s (.c 4 (nL tP)))::((.fn 181 [(.o (.ptr 0 0 0 0))])::(ru2 5 ((.s (.o (.int .i64)))::((.s (.o (.int .i64)))::(ru2 10 [])))))),[⟨0,4,true,(some [[(.o (.int .i64)),(.o (.int .i64)),(.o (.int .i64)),(.o (.int .i64))]])⟩],fun a H=>(⟨(rL tP (slT a 0)),(toI (slT a 7)),(toI (slT (rwT (elT H 0) 0) 0)),(toI (slT (rwT (elT H 0) 0) 1)),(toI (slT (rwT (elT H 0) 0) 2)),(toI (slT (rwT (elT H 0) 0) 3))⟩,⟨(toI (slT a 8))⟩)⟩],E6,[(none,fun p s=>⟨[(i s.is8)],[⟨0,4,[[(i p.f9),(i p.c8),(i p.g7),(i p.d9)]],true,false,0⟩]⟩),(some 0,fun p s=>⟨((eL tP p.c9)::((.fn 181 [(.ptr 0 0 0 0)])::(ra 5 ((i p.is7)::((i s.is8)::((b (decide (s.is8 < p.is7)))::(ra 9 []))))))),[⟨0,4,[[(i p.f9),(i p.c8),(i p.g7),(i p.d9)]],true,false,0⟩]⟩)],Ta6⟩
theorem Ta7:aa8.Ok:=Lo.ok [] (by kernel_rfl) .nil rfl (.cons (fun a H=>by kernel_rfl) .nil) fun p s=>(.of @C7 (fun F _ _ _ _ _=>by unfold C7;(repeat' apply o0 (f:=F))<;>rfl) (by kernel_rfl))
structure S4 where
 alt:Nat
 is0:Int
noncomputable def D4 {α:Type} (kk:S4→α) (x:S3):α:=let t1:=(lp (E6 (⟨(rt tP x.c9),(↑(List.length x.c9):Int),x.f9,x.c8,x.g7,x.d9⟩:G9)) (⟨0⟩:o3));(sl ((cnE tP x.c9)&&true) (sl (Nat.beq t1.1 1) (kk ⟨1,t1.2.is8⟩) (sl (Nat.beq t1.1 2) (kk ⟨1,(-1)⟩) (kk ⟨0,0⟩))) (kk ⟨0,0⟩))
noncomputable def S5 (x:S3):S4:=D4 (fun r=>r) x
noncomputable def ea2 (x:S3) (r:S4):DT (b7×List b8):=(.ite (Nat.beq r.alt 1) (.ret ((i r.is0),[⟨0,4,[[(i x.f9),(i x.c8),(i x.g7),(i x.d9)]],true,false,0⟩])) .fail)
theorem fb2 {α β:Type} (F:α→β) (kk:S4→α) (x:S3):F (D4 kk x)=D4 (fun r=>F (kk r)) x:=by unfold D4;(repeat' apply o0 (f:=F))<;>rfl
noncomputable def ya3:Sum:=ab8 ⟨[(.s (.c 4 (nL tP))),(.fn 181 [(.o (.ptr 0 0 0 0))])],[⟨0,4,true,(some [[(.o (.int .i64)),(.o (.int .i64)),(.o (.int .i64)),(.o (.int .i64))]])⟩],fun a H=>(⟨(rL tP (slT a 0)),(toI (slT (rwT (elT H 0) 0) 0)),(toI (slT (rwT (elT H 0) 0) 1)),(toI (slT (rwT (elT H 0) 0) 2)),(toI (slT (rwT (elT H 0) 0) 3))⟩,())⟩ (fun x=>ea2 x (S5 x))
theorem cb4:j6 prog G 163 ya3:=S1 (enc:=fun x=>⟨[(eL tP x.c9),(.fn 181 [(.ptr 0 0 0 0)])],[⟨0,4,[[(i x.f9),(i x.c8),(i x.g7),(i x.d9)]],true,false,0⟩]⟩) (fun a H=>by kernel_rfl) (bd se9 Xa1) fun x=>Da2 (.s .p (.s (.s .p (.b (.u aa8.ls))) .p)) [aa8.pr] (by kernel_rfl) (.cons Ta7 .nil) (Eq.trans (b:=D4 (fun r=>(ea2 x r).run) x) (by kernel_rfl) (fb2 (fun r=>(ea2 x r).run) (fun r=>r) x).symm)
structure L8 where
 c9:List Pln
 f9:Int
 c8:Int
 g7:Int
 d9:Int
noncomputable def Qa4:List (Nat×Sum):=[(163,ya3)]
theorem La8:l5 prog G Qa4:=⟨cb4,trivial⟩
structure L9 where
 alt:Nat
 bs0:Bool
noncomputable def A3 {α:Type} (kk:L9→α) (x:L8):α:=let t1:=(S5 ⟨(rt tP x.c9),x.f9,x.c8,x.g7,x.d9⟩);(sl ((cnE tP x.c9)&&true) (sl (Nat.beq t1.alt 1) (kk ⟨1,(decide (t1.is0≥0))⟩) (kk ⟨0,false⟩)) (kk ⟨0,false⟩))
noncomputable def Z4 (x:L8):L9:=A3 (fun r=>r) x
noncomputable def X1 (x:L8) (r:L9):DT (b7×List b8):=(.ite (Nat.beq r.alt 1) (.ret ((b r.bs0),[⟨0,4,[[(i x.f9),(i x.c8),(i x.g7),(i x.d9)]],true,false,0⟩])) .fail)
theorem Ta8 {α β:Type} (F:α→β) (kk:L9→α) (x:L8):F (A3 kk x)=A3 (fun r=>F (kk r)) x:=by unfold A3;(repeat' apply o0 (f:=F))<;>rfl
noncomputable def qa3:Sum:=ab8 ⟨[(.s (.c 4 (nL tP))),(.fn 181 [(.o (.ptr 0 0 0 0))])],[⟨0,4,true,(some [[(.o (.int .i64)),(.o (.int .i64)),(.o (.int .i64)),(.o (.int .i64))]])⟩],fun a H=>(⟨(rL tP (slT a 0)),(toI (slT (rwT (elT H 0) 0) 0)),(toI (slT (rwT (elT H 0) 0) 1)),(toI (slT (rwT (elT H 0) 0) 2)),(toI (slT (rwT (elT H 0) 0) 3))⟩,())⟩ (fun x=>X1 x (Z4 x))
theorem Qa5:j6 prog G 83 qa3:=S1 (enc:=fun x=>⟨[(eL tP x.c9),(.fn 181 [(.ptr 0 0 0 0)])],[⟨0,4,[[(i x.f9),(i x.c8),(i x.g7),(i x.d9)]],true,false,0⟩]⟩) (fun a H=>by kernel_rfl) (bd b83 La8) fun x=>w6 (Eq.trans (b:=A3 (fun r=>(X1 x r).run) x) (by kernel_rfl) (Ta8 (fun r=>(X1 x r).run) (fun r=>r) x).symm)
noncomputable def yc7:List (Nat×Sum):=[(83,qa3)]
theorem nc5:l5 prog G yc7:=⟨Qa5,trivial⟩
noncomputable def Aa3 (x:List Pln) (y:Pt):Option (b7×List b8):=let t1:=(Z4 ⟨(rt tP x),y.px,y.py,y.pz,y.pw⟩);(sl ((cnE tP x)&&true) (sl (Nat.beq t1.alt 1) (some ((b (!t1.bs0)),[])) none) none)
noncomputable def V7 (x:List Pln) (y:Pt):Bool:=P4 (one r1B) (Aa3 x y)
noncomputable def V8 (x:List Pln) (y:Pt):Bool:=okO (one r1B) (Aa3 x y)
noncomputable def Oa2:Sum:=la2 (ia2 tP) (W9 tX) (fun x y=>.guard (V8 x y) (.ret ((one r1B).enc (V7 x y),[])))
theorem cb5:j6 prog G 108 Oa2:=nb9 (bd Le9 nc5) (one r1B) (o:=Aa3) fun x y=>w6 (by kernel_rfl)
noncomputable def Aa4:List (Nat×Sum):=[]
theorem fb3:l5 prog G Aa4:=trivial
@[reducible] noncomputable def Ea9:Sum:=l4 (En Aa4) ne8
theorem kb9:j6 prog G 217 Ea9:=bd Pe8 fb3
noncomputable def Ha1:List (Nat×Sum):=[(217,Ea9)]
theorem pb0:l5 prog G Ha1:=⟨kb9,trivial⟩
@[reducible] noncomputable def Ka4:Sum:=l4 (En Ha1) ne0
theorem ub0:j6 prog G 170 Ka4:=bd Ne9 pb0
noncomputable def aa9:List (Nat×Sum):=[(171,lc0),(108,Oa2),(170,Ka4)]
theorem pb1:l5 prog G aa9:=⟨Wc8,cb5,ub0,trivial⟩
structure i7 where
 is3:Int
 O6:List Pln
 Ka2:Int
 V0:Int
 cc2:Nat
 Ya8:Nat→List b7
 fa9:Int
 oa5:Int
 yd7:Nat
 Wa1:Nat→List b7
 bd5:Int
 d8:List Pln
 I5:Int
 I6:Int
 I7:Int
 I8:Int
 da0:Int
 da1:Int
 da2:Int
 Ya9:Int
 oa6:List Pln
structure i8 where
 ph:Nat
 ra4:Int
 Oa9:Nat
 eh6:List (List b7)
 eh7:List (List b7)
noncomputable def fb4 (p:i7) (s:i8):St:=⟨(.unk::((.ptr 0 0 0 0)::(.unk::((i p.is3)::((.ptr 1 0 0 0)::(.unk::((.ptr 2 0 0 0)::(.unk::(.unk::((eL tP p.O6)::((i p.Ka2)::((i p.V0)::(ra 7 ((.tree 4 p.cc2 p.Ya8)::((i p.fa9)::((i p.oa5)::(ra 9 ((.tree 4 p.yd7 p.Wa1)::((i p.bd5)::((i s.ra4)::(ra 13 ((i 0)::(.unk::((.ptr 3 0 0 0)::((.v (.slice none 0 0))::((.ptr 4 0 0 0)::((.ptr 5 0 0 0)::(ra 31 [])))))))))))))))))))))))))))),[⟨0,1,[[(eL tP p.d8)]],true,false,0⟩,⟨0,4,[[(i p.I5),(i p.I6),(i p.I7),(i p.I8)]],true,false,0⟩,⟨0,4,[[(i p.da0),(i p.da1),(i p.da2),(i p.Ya9)]],true,false,0⟩,⟨0,1,[[(eL tP p.oa6)]],true,false,0⟩,⟨0,0,[[(.v (.slice none 0 0))]],true,false,0⟩,⟨0,0,[[(.ptr 6 0 0 0)]],true,false,0⟩,⟨174,0,[],true,false,0⟩]⟩
noncomputable def fb5 (p:i7) (s:i8):St:=⟨(.unk::((.ptr 0 0 0 0)::(.unk::((i p.is3)::((.ptr 1 0 0 0)::(.unk::((.ptr 2 0 0 0)::(.unk::(.unk::((eL tP p.O6)::((i p.Ka2)::((i p.V0)::(ra 7 ((.tree 4 p.cc2 p.Ya8)::((i p.fa9)::((i p.oa5)::(ra 9 ((.tree 4 p.yd7 p.Wa1)::((i p.bd5)::((i s.ra4)::(ra 13 ((i 0)::(.unk::((.ptr 3 0 0 0)::((.v (.slice none 0 0))::((.ptr 4 0 0 0)::((.ptr 5 0 0 0)::(ra 31 [])))))))))))))))))))))))))))),[⟨0,1,[[(eL tP p.d8)]],true,false,0⟩,⟨0,4,[[(i p.I5),(i p.I6),(i p.I7),(i p.I8)]],true,false,0⟩,⟨0,4,[[(i p.da0),(i p.da1),(i p.da2),(i p.Ya9)]],true,false,0⟩,⟨0,1,[[(eL tP p.oa6)]],true,false,0⟩,⟨0,0,[[(.sl 6 0 s.Oa9 0)]],true,false,0⟩,⟨0,0,[[(.ptr 7 0 0 0)]],true,false,0⟩,⟨54,4,s.eh6,true,false,0⟩,⟨174,0,s.eh7,true,false,0⟩]⟩
noncomputable def lb0 (p:i7) (s:i8):St:=(sel (Nat.beq s.ph 1) (fb5 p s) (fb4 p s))
noncomputable def y7 {α:Type} (k:i8→α) (e:Nat→α) (z:α) (p:i7) (s:i8):α:=let t1:=(Qa2 (⟨(⟨(⟨p.I5,p.I6,p.I7⟩:V3),p.I8⟩:Pln),(⟨(⟨p.da0,p.da1,p.da2⟩:V3),p.Ya9⟩:Pln),(⟨(⟨(toI (hdA (p.Wa1 s.ra4.toNat))),(toI (hdA (tlA (p.Wa1 s.ra4.toNat)))),(toI (hdA (tlA (tlA (p.Wa1 s.ra4.toNat)))))⟩:V3),(toI (hdA (tlA (tlA (tlA (p.Wa1 s.ra4.toNat))))))⟩:Pln)⟩:Tp));let t2:=(V7 (rt tP p.oa6) t1.1);(sl (decide (s.ra4 < p.bd5)) (sl (inB s.ra4 p.yd7) (sl ((Nat.ble 4 (len (p.Wa1 s.ra4.toNat)))&&(R5 [(CK.int .i64),(CK.int .i64),(CK.int .i64),(CK.int .i64)] (p.Wa1 s.ra4.toNat))) (sl (Qa3 (⟨(⟨(⟨p.I5,p.I6,p.I7⟩:V3),p.I8⟩:Pln),(⟨(⟨p.da0,p.da1,p.da2⟩:V3),p.Ya9⟩:Pln),(⟨(⟨(toI (hdA (p.Wa1 s.ra4.toNat))),(toI (hdA (tlA (p.Wa1 s.ra4.toNat)))),(toI (hdA (tlA (tlA (p.Wa1 s.ra4.toNat)))))⟩:V3),(toI (hdA (tlA (tlA (tlA (p.Wa1 s.ra4.toNat))))))⟩:Pln)⟩:Tp)) (sl t1.2 (sl (!(Tb0 4 [(0,(.int .i64)),(1,(.int .i64)),(2,(.int .i64)),(3,(.int .i64))] [(i t1.1.px),(i t1.1.py),(i t1.1.pz),(i t1.1.pw)] [])) (sl (okE tP p.oa6) (sl (V8 (rt tP p.oa6) t1.1) (sl t2 (k ⟨1,(W (s.ra4+1)),1,[[(i t1.1.px),(i t1.1.py),(i t1.1.pz),(i t1.1.pw)]],(kb0 [(0,(.int .i64)),(1,(.int .i64)),(2,(.int .i64)),(3,(.int .i64))] [(i t1.1.px),(i t1.1.py),(i t1.1.pz),(i t1.1.pw)] [(i t1.1.px),(i t1.1.py),(i t1.1.pz),(i t1.1.pw),(b true)] [])⟩) (k ⟨0,(W (s.ra4+1)),0,[],[]⟩)) z) z) (k ⟨0,(W (s.ra4+1)),0,[],[]⟩)) (k ⟨0,(W (s.ra4+1)),0,[],[]⟩)) z) z) z) (e 1))
noncomputable def y8 {α:Type} (k:i8→α) (e:Nat→α) (z:α) (p:i7) (s:i8):α:=let t1:=(Qa2 (⟨(⟨(⟨p.I5,p.I6,p.I7⟩:V3),p.I8⟩:Pln),(⟨(⟨p.da0,p.da1,p.da2⟩:V3),p.Ya9⟩:Pln),(⟨(⟨(toI (hdA (p.Wa1 s.ra4.toNat))),(toI (hdA (tlA (p.Wa1 s.ra4.toNat)))),(toI (hdA (tlA (tlA (p.Wa1 s.ra4.toNat)))))⟩:V3),(toI (hdA (tlA (tlA (tlA (p.Wa1 s.ra4.toNat))))))⟩:Pln)⟩:Tp));let t2:=(V7 (rt tP p.oa6) t1.1);(sl (decide (s.ra4 < p.bd5)) (sl (inB s.ra4 p.yd7) (sl ((Nat.ble 4 (len (p.Wa1 s.ra4.toNat)))&&(R5 [(CK.int .i64),(CK.int .i64),(CK.int .i64),(CK.int .i64)] (p.Wa1 s.ra4.toNat))) (sl (Qa3 (⟨(⟨(⟨p.I5,p.I6,p.I7⟩:V3),p.I8⟩:Pln),(⟨(⟨p.da0,p.da1,p.da2⟩:V3),p.Ya9⟩:Pln),(⟨(⟨(toI (hdA (p.Wa1 s.ra4.toNat))),(toI (hdA (tlA (p.Wa1 s.ra4.toNat)))),(toI (hdA (tlA (tlA (p.Wa1 s.ra4.toNat)))))⟩:V3),(toI (hdA (tlA (tlA (tlA (p.Wa1 s.ra4.toNat))))))⟩:Pln)⟩:Tp)) (sl t1.2 (sl (!(Tb0 4 [(0,(.int .i64)),(1,(.int .i64)),(2,(.int .i64)),(3,(.int .i64))] [(i t1.1.px),(i t1.1.py),(i t1.1.pz),(i t1.1.pw)] s.eh7)) (sl (okE tP p.oa6) (sl (V8 (rt tP p.oa6) t1.1) (sl t2 (sl (Nat.beq s.Oa9 (len s.eh6)&&Nat.ble ((s.Oa9+1)*32) room) (k ⟨1,(W (s.ra4+1)),(s.Oa9+1),(app s.eh6 [[(i t1.1.px),(i t1.1.py),(i t1.1.pz),(i t1.1.pw)]]),(kb0 [(0,(.int .i64)),(1,(.int .i64)),(2,(.int .i64)),(3,(.int .i64))] [(i t1.1.px),(i t1.1.py),(i t1.1.pz),(i t1.1.pw)] [(i t1.1.px),(i t1.1.py),(i t1.1.pz),(i t1.1.pw),(b true)] s.eh7)⟩) z) (k ⟨1,(W (s.ra4+1)),s.Oa9,s.eh6,s.eh7⟩)) z) z) (k ⟨1,(W (s.ra4+1)),s.Oa9,s.eh6,s.eh7⟩)) (k ⟨1,(W (s.ra4+1)),s.Oa9,s.eh6,s.eh7⟩)) z) z) z) (e 2))
noncomputable def r9 (p:i7) (s:i8):Stp i8:=(sel (Nat.beq s.ph 1) (y8 .next .exit .fail p s) (y7 .next .exit .fail p s))
noncomputable def ma3:Lo i7 i8:=⟨En aa9,0,fe2,[1,1,1,0,1,4,4,1,4,4,1,1,0,4,1,1,4,4,1,1,0,4,1,1,4,4],[1,3,4,6,9,10,11,19,20,21,31,32,33,47,49,50,51,52],.p,[⟨((.s (.o .unk))::((.s (.o (.ptr 0 0 0 0)))::((.s (.o .unk))::((.s (.o (.int .i64)))::((.s (.o (.ptr 1 0 0 0)))::((.s (.o .unk))::((.s (.o (.ptr 2 0 0 0)))::((.s (.o .unk))::((.s (.o .unk))::((.s (.c 4 (nL tP)))::((.s (.o (.int .i64)))::((.s (.o (.int .i64)))::(ru2 7 ((.s (.o (.tree 4)))::((.s (.o (.int .i64)))::((.s (.o (.int .i64)))::(ru2 9 ((.s (.o (.tree 4)))::((.s (.o (.int .i64)))::((.s (.o (.int .i64)))::(ru2 13 ((.s (.o (.lit .i64 0)))::((.s (.o .unk))::((.s (.o (.ptr 3 0 0 0)))::((.s (.o .nil))::((.s (.o (.ptr 4 0 0 0)))::((.s (.o (.ptr 5 0 0 0)))::(ru2 31 [])))))))))))))))))))))))))))),[⟨0,1,true,(some [[(.c 4 (nL tP))]])⟩,⟨0,4,true,(some [[(.o (.int .i64)),(.o (.int .i64)),(.o (.int .i64)),(.o (.int .i64))]])⟩,⟨0,4,true,(some [[(.o (.int .i64)),(.o (.int .i64)),(.o (.int .i64)),(.o (.int .i64))]])⟩,⟨0,1,true,(some [[(.c 4 (nL tP))]])⟩,⟨0,0,true,(some [[(.o .nil)]])⟩,⟨0,0,true,(some [[(.o (.ptr 6 0 0 0))]])⟩,⟨174,0,true,(some [])⟩],fun a H=>(⟨(toI (slT a 3)),(rL tP (slT a 9)),(toI (slT a 10)),(toI (slT a 11)),(toN (slT a 19)),(toG (slT a 19)),(toI (slT a 20)),(toI (slT a 21)),(toN (slT a 31)),(toG (slT a 31)),(toI (slT a 32)),(rL tP (slT (rwT (elT H 0) 0) 0)),(toI (slT (rwT (elT H 1) 0) 0)),(toI (slT (rwT (elT H 1) 0) 1)),(toI (slT (rwT (elT H 1) 0) 2)),(toI (slT (rwT (elT H 1) 0) 3)),(toI (slT (rwT (elT H 2) 0) 0)),(toI (slT (rwT (elT H 2) 0) 1)),(toI (slT (rwT (elT H 2) 0) 2)),(toI (slT (rwT (elT H 2) 0) 3)),(rL tP (slT (rwT (elT H 3) 0) 0))⟩,⟨0,(toI (slT a 33)),0,[],[]⟩)⟩,⟨((.s (.o .unk))::((.s (.o (.ptr 0 0 0 0)))::((.s (.o .unk))::((.s (.o (.int .i64)))::((.s (.o (.ptr 1 0 0 0)))::((.s (.o .unk))::((.s (.o (.ptr 2 0 0 0)))::((.s (.o .unk))::((.s (.o .unk))::((.s (.c 4 (nL tP)))::((.s (.o (.int .i64)))::((.s (.o (.int .i64)))::(ru2 7 ((.s (.o (.tree 4)))::((.s (.o (.int .i64)))::((.s (.o (.int .i64)))::(ru2 9 ((.s (.o (.tree 4)))::((.s (.o (.int .i64)))::((.s (.o (.int .i64)))::(ru2 13 ((.s (.o (.lit .i64 0)))::((.s (.o .unk))::((.s (.o (.ptr 3 0 0 0)))::((.s (.o .nil))::((.s (.o (.ptr 4 0 0 0)))::((.s (.o (.ptr 5 0 0 0)))::(ru2 31 [])))))))))))))))))))))))))))),[⟨0,1,true,(some [[(.c 4 (nL tP))]])⟩,⟨0,4,true,(some [[(.o (.int .i64)),(.o (.int .i64)),(.o (.int .i64)),(.o (.int .i64))]])⟩,⟨0,4,true,(some [[(.o (.int .i64)),(.o (.int .i64)),(.o (.int .i64)),(.o (.int .i64))]])⟩,⟨0,1,true,(some [[(.c 4 (nL tP))]])⟩,⟨0,0,true,(some [[(.o (.sl 6 0 (some 0) none))]])⟩,⟨0,0,true,(some [[(.o (.ptr 7 0 0 0))]])⟩,⟨54,4,true,none⟩,⟨174,0,true,none⟩],fun a H=>(⟨(toI (slT a 3)),(rL tP (slT a 9)),(toI (slT a 10)),(toI (slT a 11)),(toN (slT a 19)),(toG (slT a 19)),(toI (slT a 20)),(toI (slT a 21)),(toN (slT a 31)),(toG (slT a 31)),(toI (slT a 32)),(rL tP (slT (rwT (elT H 0) 0) 0)),(toI (slT (rwT (elT H 1) 0) 0)),(toI (slT (rwT (elT H 1) 0) 1)),(toI (slT (rwT (elT H 1) 0) 2)),(toI (slT (rwT (elT H 1) 0) 3)),(toI (slT (rwT (elT H 2) 0) 0)),(toI (slT (rwT (elT H 2) 0) 1)),(toI (slT (rwT (elT H 2) 0) 2)),(toI (slT (rwT (elT H 2) 0) 3)),(rL tP (slT (rwT (elT H 3) 0) 0))⟩,⟨1,(toI (slT a 33)),(slN (slT (rwT (elT H 4) 0) 0)),(elT H 6),(elT H 7)⟩)⟩],r9,[(some 4,fun p s=>⟨(.unk::((.ptr 0 0 0 0)::(.unk::((i p.is3)::((.ptr 1 0 0 0)::(.unk::((.ptr 2 0 0 0)::(.unk::(.unk::((eL tP p.O6)::((i p.Ka2)::((i p.V0)::(ra 7 ((.tree 4 p.cc2 p.Ya8)::((i p.fa9)::((i p.oa5)::(ra 9 ((.tree 4 p.yd7 p.Wa1)::((i p.bd5)::((i s.ra4)::((b (decide (s.ra4 < p.bd5)))::(ra 12 ((i 0)::(.unk::((.ptr 3 0 0 0)::((.v (.slice none 0 0))::((.ptr 4 0 0 0)::((.ptr 5 0 0 0)::(ra 31 []))))))))))))))))))))))))))))),[⟨0,1,[[(eL tP p.d8)]],true,false,0⟩,⟨0,4,[[(i p.I5),(i p.I6),(i p.I7),(i p.I8)]],true,false,0⟩,⟨0,4,[[(i p.da0),(i p.da1),(i p.da2),(i p.Ya9)]],true,false,0⟩,⟨0,1,[[(eL tP p.oa6)]],true,false,0⟩,⟨0,0,[[(.v (.slice none 0 0))]],true,false,0⟩,⟨0,0,[[(.ptr 6 0 0 0)]],true,false,0⟩,⟨174,0,[],true,false,0⟩]⟩),(some 4,fun p s=>⟨(.unk::((.ptr 0 0 0 0)::(.unk::((i p.is3)::((.ptr 1 0 0 0)::(.unk::((.ptr 2 0 0 0)::(.unk::(.unk::((eL tP p.O6)::((i p.Ka2)::((i p.V0)::(ra 7 ((.tree 4 p.cc2 p.Ya8)::((i p.fa9)::((i p.oa5)::(ra 9 ((.tree 4 p.yd7 p.Wa1)::((i p.bd5)::((i s.ra4)::((b (decide (s.ra4 < p.bd5)))::(ra 12 ((i 0)::(.unk::((.ptr 3 0 0 0)::((.v (.slice none 0 0))::((.ptr 4 0 0 0)::((.ptr 5 0 0 0)::(ra 31 []))))))))))))))))))))))))))))),[⟨0,1,[[(eL tP p.d8)]],true,false,0⟩,⟨0,4,[[(i p.I5),(i p.I6),(i p.I7),(i p.I8)]],true,false,0⟩,⟨0,4,[[(i p.da0),(i p.da1),(i p.da2),(i p.Ya9)]],true,false,0⟩,⟨0,1,[[(eL tP p.oa6)]],true,false,0⟩,⟨0,0,[[(.sl 6 0 s.Oa9 0)]],true,false,0⟩,⟨0,0,[[(.ptr 7 0 0 0)]],true,false,0⟩,⟨54,4,s.eh6,true,false,0⟩,⟨174,0,s.eh7,true,false,0⟩]⟩)],lb0⟩
theorem lb1:ma3.OkM:=Lo.okM [] (by kernel_rfl) .nil rfl (.cons (fun a H=>by kernel_rfl) (.cons (fun a H=>by kernel_rfl) .nil)) fun p s=>(.sel (Nat.beq s.ph 1) (.of @y8 (fun F _ _ _ _ _=>by unfold y8;(repeat' apply o0 (f:=F))<;>rfl) (by kernel_rfl)) (.of @y7 (fun F _ _ _ _ _=>by unfold y7;(repeat' apply o0 (f:=F))<;>rfl) (by kernel_rfl)))
structure i9 where
 is3:Int
 Ka2:Int
 V0:Int
 cc2:Nat
 Ya8:Nat→List b7
 fa9:Int
 I5:Int
 I6:Int
 I7:Int
 I8:Int
structure j9 where
 ph:Nat
 O6:List Pln
 oa5:Int
 d8:List Pln
 R4:List Pln
 cc3:Nat
 eh5:List (List b7)
 eh6:List (List b7)
noncomputable def fb6 (p:i9) (s:j9):St:=⟨(.unk::((.ptr 0 0 0 0)::(.unk::((i p.is3)::((.ptr 1 0 0 0)::(ra 4 ((eL tP s.O6)::((i p.Ka2)::((i p.V0)::(ra 7 ((.tree 4 p.cc2 p.Ya8)::((i p.fa9)::((i s.oa5)::(ra 25 ((i 0)::(.unk::((.ptr 2 0 0 0)::((.v (.slice none 0 0))::((.ptr 3 0 0 0)::((.ptr 4 0 0 0)::(ra 31 []))))))))))))))))))))),[⟨0,1,[[(eL tP s.d8)]],true,false,0⟩,⟨0,4,[[(i p.I5),(i p.I6),(i p.I7),(i p.I8)]],true,false,0⟩,⟨0,1,[[(eL tP s.R4)]],true,false,0⟩,⟨0,0,[[(.v (.slice none 0 0))]],true,false,0⟩,⟨0,0,[[(.ptr 5 0 0 0)]],true,false,0⟩,⟨174,0,[],true,false,0⟩]⟩
noncomputable def fb7 (p:i9) (s:j9):St:=⟨(.unk::((.ptr 0 0 0 0)::(.unk::((i p.is3)::((.ptr 1 0 0 0)::(ra 4 ((eL tP s.O6)::((i p.Ka2)::((i p.V0)::(ra 7 ((.tree 4 p.cc2 p.Ya8)::((i p.fa9)::((i s.oa5)::(ra 25 ((i 0)::(.unk::((.ptr 2 0 0 0)::((.v (.slice none 0 0))::((.ptr 3 0 0 0)::((.ptr 4 0 0 0)::(ra 31 []))))))))))))))))))))),[⟨0,1,[[(eL tP s.d8)]],true,false,0⟩,⟨0,4,[[(i p.I5),(i p.I6),(i p.I7),(i p.I8)]],true,false,0⟩,⟨0,1,[[(eL tP s.R4)]],true,false,0⟩,⟨0,0,[[(.sl 5 0 s.cc3 0)]],true,false,0⟩,⟨0,0,[[(.ptr 6 0 0 0)]],true,false,0⟩,⟨54,4,s.eh5,true,false,0⟩,⟨174,0,s.eh6,true,false,0⟩]⟩
noncomputable def lb2 (p:i9) (s:j9):St:=(sel (Nat.beq s.ph 1) (fb7 p s) (fb6 p s))
noncomputable def y9 {α:Type} (k:j9→α) (e:Nat→α) (z:α) (p:i9) (s:j9):α:=let t1:=(lp (r9 (⟨p.is3,(rt tP s.O6),p.Ka2,p.V0,p.cc2,p.Ya8,p.fa9,s.oa5,((List.length s.d8) - (W ((W (p.is3+s.oa5))+2)).toNat),(fun k=>(fun k=>(tP).row (gL tP s.d8 k)) ((W ((W (p.is3+s.oa5))+2)).toNat+k)),(↑((List.length s.d8) - (W ((W (p.is3+s.oa5))+2)).toNat):Int),(rt tP s.d8),p.I5,p.I6,p.I7,p.I8,(toI (hdA (p.Ya8 s.oa5.toNat))),(toI (hdA (tlA (p.Ya8 s.oa5.toNat)))),(toI (hdA (tlA (tlA (p.Ya8 s.oa5.toNat))))),(toI (hdA (tlA (tlA (tlA (p.Ya8 s.oa5.toNat)))))),(rt tP s.R4)⟩:i7)) (⟨0,0,0,[],[]⟩:i8));(sl (decide (s.oa5 < p.fa9)) (sl (inB s.oa5 p.cc2) (sl ((Nat.ble 4 (len (p.Ya8 s.oa5.toNat)))&&(R5 [(CK.int .i64),(CK.int .i64),(CK.int .i64),(CK.int .i64)] (p.Ya8 s.oa5.toNat))) (sl (inB (W ((W (p.is3+s.oa5))+2)) ((List.length s.d8)+1)) (sl ((cnE tP s.O6)&&((cnE tP s.d8)&&((cnE tP s.R4)&&true))) (sl (Nat.beq t1.1 1) (k ⟨0,(rt tP s.O6),(W (s.oa5+1)),(rt tP s.d8),(rt tP s.R4),0,[],[]⟩) (sl (Nat.beq t1.1 2) (k ⟨1,(rt tP s.O6),(W (s.oa5+1)),(rt tP s.d8),(rt tP s.R4),t1.2.Oa9,t1.2.eh6,t1.2.eh7⟩) z)) z) z) z) z) (e 1))
noncomputable def z6 {α:Type} (k:j9→α) (e:Nat→α) (z:α) (p:i9) (s:j9):α:=let t1:=(lp (r9 (⟨p.is3,(rt tP s.O6),p.Ka2,p.V0,p.cc2,p.Ya8,p.fa9,s.oa5,((List.length s.d8) - (W ((W (p.is3+s.oa5))+2)).toNat),(fun k=>(fun k=>(tP).row (gL tP s.d8 k)) ((W ((W (p.is3+s.oa5))+2)).toNat+k)),(↑((List.length s.d8) - (W ((W (p.is3+s.oa5))+2)).toNat):Int),(rt tP s.d8),p.I5,p.I6,p.I7,p.I8,(toI (hdA (p.Ya8 s.oa5.toNat))),(toI (hdA (tlA (p.Ya8 s.oa5.toNat)))),(toI (hdA (tlA (tlA (p.Ya8 s.oa5.toNat))))),(toI (hdA (tlA (tlA (tlA (p.Ya8 s.oa5.toNat)))))),(rt tP s.R4)⟩:i7)) (⟨1,0,s.cc3,s.eh5,s.eh6⟩:i8));(sl (decide (s.oa5 < p.fa9)) (sl (inB s.oa5 p.cc2) (sl ((Nat.ble 4 (len (p.Ya8 s.oa5.toNat)))&&(R5 [(CK.int .i64),(CK.int .i64),(CK.int .i64),(CK.int .i64)] (p.Ya8 s.oa5.toNat))) (sl (inB (W ((W (p.is3+s.oa5))+2)) ((List.length s.d8)+1)) (sl ((cnE tP s.O6)&&((cnE tP s.d8)&&((cnE tP s.R4)&&true))) (sl (Nat.beq t1.1 1) (k ⟨0,(rt tP s.O6),(W (s.oa5+1)),(rt tP s.d8),(rt tP s.R4),0,[],[]⟩) (sl (Nat.beq t1.1 2) (k ⟨1,(rt tP s.O6),(W (s.oa5+1)),(rt tP s.d8),(rt tP s.R4),t1.2.Oa9,t1.2.eh6,t1.2.eh7⟩) z)) z) z) z) z) (e 2))
noncomputable def s5 (p:i9) (s:j9):Stp j9:=(sel (Nat.beq s.ph 1) (z6 .next .exit .fail p s) (y9 .next .exit .fail p s))
noncomputable def ma4:Lo i9 j9:=⟨En aa9,0,fe2,[1,1,1,0,1,4,4,1,4,4,1,1,0,4,1,1,4,4],[1,3,4,9,10,11,19,20,21,47,49,50,51,52],(.s .p (.s .p (.s (.b (.s .p (.s .p (.b (.u ma3.lsM))))) .p))),[⟨((.s (.o .unk))::((.s (.o (.ptr 0 0 0 0)))::((.s (.o .unk))::((.s (.o (.int .i64)))::((.s (.o (.ptr 1 0 0 0)))::(ru2 4 ((.s (.c 4 (nL tP)))::((.s (.o (.int .i64)))::((.s (.o (.int .i64)))::(ru2 7 ((.s (.o (.tree 4)))::((.s (.o (.int .i64)))::((.s (.o (.int .i64)))::(ru2 25 ((.s (.o (.lit .i64 0)))::((.s (.o .unk))::((.s (.o (.ptr 2 0 0 0)))::((.s (.o .nil))::((.s (.o (.ptr 3 0 0 0)))::((.s (.o (.ptr 4 0 0 0)))::(ru2 31 []))))))))))))))))))))),[⟨0,1,true,(some [[(.c 4 (nL tP))]])⟩,⟨0,4,true,(some [[(.o (.int .i64)),(.o (.int .i64)),(.o (.int .i64)),(.o (.int .i64))]])⟩,⟨0,1,true,(some [[(.c 4 (nL tP))]])⟩,⟨0,0,true,(some [[(.o .nil)]])⟩,⟨0,0,true,(some [[(.o (.ptr 5 0 0 0))]])⟩,⟨174,0,true,(some [])⟩],fun a H=>(⟨(toI (slT a 3)),(toI (slT a 10)),(toI (slT a 11)),(toN (slT a 19)),(toG (slT a 19)),(toI (slT a 20)),(toI (slT (rwT (elT H 1) 0) 0)),(toI (slT (rwT (elT H 1) 0) 1)),(toI (slT (rwT (elT H 1) 0) 2)),(toI (slT (rwT (elT H 1) 0) 3))⟩,⟨0,(rL tP (slT a 9)),(toI (slT a 21)),(rL tP (slT (rwT (elT H 0) 0) 0)),(rL tP (slT (rwT (elT H 2) 0) 0)),0,[],[]⟩)⟩,⟨((.s (.o .unk))::((.s (.o (.ptr 0 0 0 0)))::((.s (.o .unk))::((.s (.o (.int .i64)))::((.s (.o (.ptr 1 0 0 0)))::(ru2 4 ((.s (.c 4 (nL tP)))::((.s (.o (.int .i64)))::((.s (.o (.int .i64)))::(ru2 7 ((.s (.o (.tree 4)))::((.s (.o (.int .i64)))::((.s (.o (.int .i64)))::(ru2 25 ((.s (.o (.lit .i64 0)))::((.s (.o .unk))::((.s (.o (.ptr 2 0 0 0)))::((.s (.o .nil))::((.s (.o (.ptr 3 0 0 0)))::((.s (.o (.ptr 4 0 0 0)))::(ru2 31 []))))))))))))))))))))),[⟨0,1,true,(some [[(.c 4 (nL tP))]])⟩,⟨0,4,true,(some [[(.o (.int .i64)),(.o (.int .i64)),(.o (.int .i64)),(.o (.int .i64))]])⟩,⟨0,1,true,(some [[(.c 4 (nL tP))]])⟩,⟨0,0,true,(some [[(.o (.sl 5 0 (some 0) none))]])⟩,⟨0,0,true,(some [[(.o (.ptr 6 0 0 0))]])⟩,⟨54,4,true,none⟩,⟨174,0,true,none⟩],fun a H=>(⟨(toI (slT a 3)),(toI (slT a 10)),(toI (slT a 11)),(toN (slT a 19)),(toG (slT a 19)),(toI (slT a 20)),(toI (slT (rwT (elT H 1) 0) 0)),(toI (slT (rwT (elT H 1) 0) 1)),(toI (slT (rwT (elT H 1) 0) 2)),(toI (slT (rwT (elT H 1) 0) 3))⟩,⟨1,(rL tP (slT a 9)),(toI (slT a 21)),(rL tP (slT (rwT (elT H 0) 0) 0)),(rL tP (slT (rwT (elT H 2) 0) 0)),(slN (slT (rwT (elT H 3) 0) 0)),(elT H 5),(elT H 6)⟩)⟩],s5,[(some 2,fun p s=>⟨(.unk::((.ptr 0 0 0 0)::(.unk::((i p.is3)::((.ptr 1 0 0 0)::(ra 4 ((eL tP s.O6)::((i p.Ka2)::((i p.V0)::(ra 7 ((.tree 4 p.cc2 p.Ya8)::((i p.fa9)::((i s.oa5)::((b (decide (s.oa5 < p.fa9)))::(ra 24 ((i 0)::(.unk::((.ptr 2 0 0 0)::((.v (.slice none 0 0))::((.ptr 3 0 0 0)::((.ptr 4 0 0 0)::(ra 31 [])))))))))))))))))))))),[⟨0,1,[[(eL tP s.d8)]],true,false,0⟩,⟨0,4,[[(i p.I5),(i p.I6),(i p.I7),(i p.I8)]],true,false,0⟩,⟨0,1,[[(eL tP s.R4)]],true,false,0⟩,⟨0,0,[[(.v (.slice none 0 0))]],true,false,0⟩,⟨0,0,[[(.ptr 5 0 0 0)]],true,false,0⟩,⟨174,0,[],true,false,0⟩]⟩),(some 2,fun p s=>⟨(.unk::((.ptr 0 0 0 0)::(.unk::((i p.is3)::((.ptr 1 0 0 0)::(ra 4 ((eL tP s.O6)::((i p.Ka2)::((i p.V0)::(ra 7 ((.tree 4 p.cc2 p.Ya8)::((i p.fa9)::((i s.oa5)::((b (decide (s.oa5 < p.fa9)))::(ra 24 ((i 0)::(.unk::((.ptr 2 0 0 0)::((.v (.slice none 0 0))::((.ptr 3 0 0 0)::((.ptr 4 0 0 0)::(ra 31 [])))))))))))))))))))))),[⟨0,1,[[(eL tP s.d8)]],true,false,0⟩,⟨0,4,[[(i p.I5),(i p.I6),(i p.I7),(i p.I8)]],true,false,0⟩,⟨0,1,[[(eL tP s.R4)]],true,false,0⟩,⟨0,0,[[(.sl 5 0 s.cc3 0)]],true,false,0⟩,⟨0,0,[[(.ptr 6 0 0 0)]],true,false,0⟩,⟨54,4,s.eh5,true,false,0⟩,⟨174,0,s.eh6,true,false,0⟩]⟩)],lb2⟩
theorem lb3:ma4.OkM:=Lo.okM [ma3.prM] (by kernel_rfl) (.cons lb1 .nil) rfl (.cons (fun a H=>by kernel_rfl) (.cons (fun a H=>by kernel_rfl) .nil)) fun p s=>(.sel (Nat.beq s.ph 1) (.of @z6 (fun F _ _ _ _ _=>by unfold z6;(repeat' apply o0 (f:=F))<;>rfl) (by kernel_rfl)) (.of @y9 (fun F _ _ _ _ _=>by unfold y9;(repeat' apply o0 (f:=F))<;>rfl) (by kernel_rfl)))
structure p7 where
 Ka2:Int
structure l7 where
 ph:Nat
 O6:List Pln
 V0:Int
 d8:List Pln
 Fa4:List Pln
 rc7:Nat
 eh4:List (List b7)
 eh5:List (List b7)
noncomputable def fb8 (p:p7) (s:l7):St:=⟨(.unk::((.ptr 0 0 0 0)::(ra 7 ((eL tP s.O6)::((i p.Ka2)::((i s.V0)::(ra 35 ((i 0)::(.unk::((.ptr 1 0 0 0)::((.v (.slice none 0 0))::((.ptr 2 0 0 0)::((.ptr 3 0 0 0)::(ra 31 [])))))))))))))),[⟨0,1,[[(eL tP s.d8)]],true,false,0⟩,⟨0,1,[[(eL tP s.Fa4)]],true,false,0⟩,⟨0,0,[[(.v (.slice none 0 0))]],true,false,0⟩,⟨0,0,[[(.ptr 4 0 0 0)]],true,false,0⟩,⟨174,0,[],true,false,0⟩]⟩
noncomputable def fb9 (p:p7) (s:l7):St:=⟨(.unk::((.ptr 0 0 0 0)::(ra 7 ((eL tP s.O6)::((i p.Ka2)::((i s.V0)::(ra 35 ((i 0)::(.unk::((.ptr 1 0 0 0)::((.v (.slice none 0 0))::((.ptr 2 0 0 0)::((.ptr 3 0 0 0)::(ra 31 [])))))))))))))),[⟨0,1,[[(eL tP s.d8)]],true,false,0⟩,⟨0,1,[[(eL tP s.Fa4)]],true,false,0⟩,⟨0,0,[[(.sl 4 0 s.rc7 0)]],true,false,0⟩,⟨0,0,[[(.ptr 5 0 0 0)]],true,false,0⟩,⟨54,4,s.eh4,true,false,0⟩,⟨174,0,s.eh5,true,false,0⟩]⟩
noncomputable def lb4 (p:p7) (s:l7):St:=(sel (Nat.beq s.ph 1) (fb9 p s) (fb8 p s))
noncomputable def z7 {α:Type} (k:l7→α) (e:Nat→α) (z:α) (p:p7) (s:l7):α:=let t1:=(lp (s5 (⟨s.V0,p.Ka2,s.V0,((List.length s.d8) - (W (s.V0+1)).toNat),(fun k=>(fun k=>(tP).row (gL tP s.d8 k)) ((W (s.V0+1)).toNat+k)),(↑((List.length s.d8) - (W (s.V0+1)).toNat):Int),(gL tP s.O6 s.V0.toNat).n.x,(gL tP s.O6 s.V0.toNat).n.y,(gL tP s.O6 s.V0.toNat).n.z,(gL tP s.O6 s.V0.toNat).b⟩:i9)) (⟨0,(rt tP s.O6),0,(rt tP s.d8),(rt tP s.Fa4),0,[],[]⟩:j9));(sl (decide (s.V0 < p.Ka2)) (sl (inB s.V0 (List.length s.O6)) (sl (inB (W (s.V0+1)) ((List.length s.d8)+1)) (sl ((cnE tP s.O6)&&((cnE tP s.d8)&&((cnE tP s.Fa4)&&true))) (sl (Nat.beq t1.1 1) (k ⟨0,t1.2.O6,(W (s.V0+1)),t1.2.d8,t1.2.R4,0,[],[]⟩) (sl (Nat.beq t1.1 2) (k ⟨1,t1.2.O6,(W (s.V0+1)),t1.2.d8,t1.2.R4,t1.2.cc3,t1.2.eh5,t1.2.eh6⟩) z)) z) z) z) (e 1))
noncomputable def z8 {α:Type} (k:l7→α) (e:Nat→α) (z:α) (p:p7) (s:l7):α:=let t1:=(lp (s5 (⟨s.V0,p.Ka2,s.V0,((List.length s.d8) - (W (s.V0+1)).toNat),(fun k=>(fun k=>(tP).row (gL tP s.d8 k)) ((W (s.V0+1)).toNat+k)),(↑((List.length s.d8) - (W (s.V0+1)).toNat):Int),(gL tP s.O6 s.V0.toNat).n.x,(gL tP s.O6 s.V0.toNat).n.y,(gL tP s.O6 s.V0.toNat).n.z,(gL tP s.O6 s.V0.toNat).b⟩:i9)) (⟨1,(rt tP s.O6),0,(rt tP s.d8),(rt tP s.Fa4),s.rc7,s.eh4,s.eh5⟩:j9));(sl (decide (s.V0 < p.Ka2)) (sl (inB s.V0 (List.length s.O6)) (sl (inB (W (s.V0+1)) ((List.length s.d8)+1)) (sl ((cnE tP s.O6)&&((cnE tP s.d8)&&((cnE tP s.Fa4)&&true))) (sl (Nat.beq t1.1 1) (k ⟨0,t1.2.O6,(W (s.V0+1)),t1.2.d8,t1.2.R4,0,[],[]⟩) (sl (Nat.beq t1.1 2) (k ⟨1,t1.2.O6,(W (s.V0+1)),t1.2.d8,t1.2.R4,t1.2.cc3,t1.2.eh5,t1.2.eh6⟩) z)) z) z) z) (e 2))
noncomputable def s6 (p:p7) (s:l7):Stp l7:=(sel (Nat.beq s.ph 1) (z8 .next .exit .fail p s) (z7 .next .exit .fail p s))
noncomputable def ma5:Lo p7 l7:=⟨En aa9,0,fe2,[1,1,1,0,1,4,4,1,4,4],[1,9,10,11,47,49,50,51,52],(.s .p (.s .p (.s (.b (.s .p (.s .p (.b (.u ma4.lsM))))) .p))),[⟨((.s (.o .unk))::((.s (.o (.ptr 0 0 0 0)))::(ru2 7 ((.s (.c 4 (nL tP)))::((.s (.o (.int .i64)))::((.s (.o (.int .i64)))::(ru2 35 ((.s (.o (.lit .i64 0)))::((.s (.o .unk))::((.s (.o (.ptr 1 0 0 0)))::((.s (.o .nil))::((.s (.o (.ptr 2 0 0 0)))::((.s (.o (.ptr 3 0 0 0)))::(ru2 31 [])))))))))))))),[⟨0,1,true,(some [[(.c 4 (nL tP))]])⟩,⟨0,1,true,(some [[(.c 4 (nL tP))]])⟩,⟨0,0,true,(some [[(.o .nil)]])⟩,⟨0,0,true,(some [[(.o (.ptr 4 0 0 0))]])⟩,⟨174,0,true,(some [])⟩],fun a H=>(⟨(toI (slT a 10))⟩,⟨0,(rL tP (slT a 9)),(toI (slT a 11)),(rL tP (slT (rwT (elT H 0) 0) 0)),(rL tP (slT (rwT (elT H 1) 0) 0)),0,[],[]⟩)⟩,⟨((.s (.o .unk))::((.s (.o (.ptr 0 0 0 0)))::(ru2 7 ((.s (.c 4 (nL tP)))::((.s (.o (.int .i64)))::((.s (.o (.int .i64)))::(ru2 35 ((.s (.o (.lit .i64 0)))::((.s (.o .unk))::((.s (.o (.ptr 1 0 0 0)))::((.s (.o .nil))::((.s (.o (.ptr 2 0 0 0)))::((.s (.o (.ptr 3 0 0 0)))::(ru2 31 [])))))))))))))),[⟨0,1,true,(some [[(.c 4 (nL tP))]])⟩,⟨0,1,true,(some [[(.c 4 (nL tP))]])⟩,⟨0,0,true,(some [[(.o (.sl 4 0 (some 0) none))]])⟩,⟨0,0,true,(some [[(.o (.ptr 5 0 0 0))]])⟩,⟨54,4,true,none⟩,⟨174,0,true,none⟩],fun a H=>(⟨(toI (slT a 10))⟩,⟨1,(rL tP (slT a 9)),(toI (slT a 11)),(rL tP (slT (rwT (elT H 0) 0) 0)),(rL tP (slT (rwT (elT H 1) 0) 0)),(slN (slT (rwT (elT H 2) 0) 0)),(elT H 4),(elT H 5)⟩)⟩],s6,[(some 0,fun p s=>⟨(.unk::((.ptr 0 0 0 0)::(ra 7 ((eL tP s.O6)::((i p.Ka2)::((i s.V0)::((b (decide (s.V0 < p.Ka2)))::(ra 34 ((i 0)::(.unk::((.ptr 1 0 0 0)::((.v (.slice none 0 0))::((.ptr 2 0 0 0)::((.ptr 3 0 0 0)::(ra 31 []))))))))))))))),[⟨0,1,[[(eL tP s.d8)]],true,false,0⟩,⟨0,1,[[(eL tP s.Fa4)]],true,false,0⟩,⟨0,0,[[(.v (.slice none 0 0))]],true,false,0⟩,⟨0,0,[[(.ptr 4 0 0 0)]],true,false,0⟩,⟨174,0,[],true,false,0⟩]⟩),(some 0,fun p s=>⟨(.unk::((.ptr 0 0 0 0)::(ra 7 ((eL tP s.O6)::((i p.Ka2)::((i s.V0)::((b (decide (s.V0 < p.Ka2)))::(ra 34 ((i 0)::(.unk::((.ptr 1 0 0 0)::((.v (.slice none 0 0))::((.ptr 2 0 0 0)::((.ptr 3 0 0 0)::(ra 31 []))))))))))))))),[⟨0,1,[[(eL tP s.d8)]],true,false,0⟩,⟨0,1,[[(eL tP s.Fa4)]],true,false,0⟩,⟨0,0,[[(.sl 4 0 s.rc7 0)]],true,false,0⟩,⟨0,0,[[(.ptr 5 0 0 0)]],true,false,0⟩,⟨54,4,s.eh4,true,false,0⟩,⟨174,0,s.eh5,true,false,0⟩]⟩)],lb4⟩
theorem lb5:ma5.OkM:=Lo.okM [ma4.prM] (by kernel_rfl) (.cons lb3 .nil) rfl (.cons (fun a H=>by kernel_rfl) (.cons (fun a H=>by kernel_rfl) .nil)) fun p s=>(.sel (Nat.beq s.ph 1) (.of @z8 (fun F _ _ _ _ _=>by unfold z8;(repeat' apply o0 (f:=F))<;>rfl) (by kernel_rfl)) (.of @z7 (fun F _ _ _ _ _=>by unfold z7;(repeat' apply o0 (f:=F))<;>rfl) (by kernel_rfl)))
noncomputable def U1 (x:List Pln):Option (b7×List b8):=let t1:=(lp (s6 (⟨(↑(List.length x):Int)⟩:p7)) (⟨0,(rt tP x),0,(rt tP x),(rt tP x),0,[],[]⟩:l7));(sl ((cnE tP x)&&((cnE tP x)&&((cnE tP x)&&true))) (sl (Nat.beq t1.1 1) (some ((.v (.slice none 0 0)),[])) (sl (Nat.beq t1.1 2) (some ((.sl 0 0 t1.2.rc7 0),[⟨54,4,t1.2.eh4,true,false,0⟩])) none)) none)
noncomputable def U2 (x:List Pln):List Pt:=P4 (one (r1L tX)) (U1 x)
noncomputable def U3 (x:List Pln):Bool:=okO (one (r1L tX)) (U1 x)
noncomputable def sa9:Sum:=ja7 (ia2 tP) (fun x=>.guard (U3 x) (.ret ((one (r1L tX)).enc (U2 x),[])))
theorem Ha2:j6 prog G 89 sa9:=Da0 (bd b89 pb1) (one (r1L tX)) (o:=U1) fun x=>oe1 (.s .p (.s .p (.s .p (.s (.s .p (.b (.i (.s .p (.b (.u ma5.lsM)))))) .p)))) [ma5.prM] (by kernel_rfl) (.cons lb5 .nil) (by kernel_rfl)
end Go.Ev.Ce
end
section
namespace Go.Ev.Ce
open Go Go.Ev Go.Ev.L Go.Proofs
set_option maxRecDepth 100000
noncomputable def xb0:List (Nat×Sum):=[]
theorem fc8:l5 prog G xb0:=trivial
structure ma6 where
 is0:Int
 qd2:List Int
 is8:Int
structure J8 where
 is9:Int
noncomputable def Xb6 (p:ma6) (s:J8):St:=⟨((i p.is0)::(ra 6 ((eL tI p.qd2)::((i p.is8)::((i s.is9)::(ra 13 [])))))),[]⟩
noncomputable def ea3 {α:Type} (k:J8→α) (e:Nat→α) (z:α) (p:ma6) (s:J8):α:=(sl (decide (s.is9 < p.is8)) (sl (inB s.is9 (List.length p.qd2)) (sl (decide ((gL tI p.qd2 s.is9.toNat) < (W (0 - p.is0)))) (e 1) (sl (decide ((gL tI p.qd2 s.is9.toNat) > p.is0)) (e 1) (k ⟨(W (s.is9+1))⟩))) z) (e 2))
noncomputable def ia7 (p:ma6) (s:J8):Stp J8:=ea3 .next .exit .fail p s
noncomputable def La9:Lo ma6 J8:=⟨En xb0,0,me7,[1,0,1,4,4],[0,7,8,9],.p,[⟨((.s (.o (.int .i64)))::(ru2 6 ((.s (.c 1 (nL tI)))::((.s (.o (.int .i64)))::((.s (.o (.int .i64)))::(ru2 13 [])))))),[],fun a H=>(⟨(toI (slT a 0)),(rL tI (slT a 7)),(toI (slT a 8))⟩,⟨(toI (slT a 9))⟩)⟩],ia7,[(none,fun p s=>⟨[(b false)],[]⟩),(some 0,fun p s=>⟨((i p.is0)::(ra 6 ((eL tI p.qd2)::((i p.is8)::((i s.is9)::((b (decide (s.is9 < p.is8)))::(ra 12 []))))))),[]⟩)],Xb6⟩
theorem Xb7:La9.Ok:=Lo.ok [] (by kernel_rfl) .nil rfl (.cons (fun a H=>by kernel_rfl) .nil) fun p s=>(.of @ea3 (fun F _ _ _ _ _=>by unfold ea3;(repeat' apply o0 (f:=F))<;>rfl) (by kernel_rfl))
noncomputable def va0 (x:Int) (y:List Int):Option (b7×List b8):=let t1:=(lp (ia7 (⟨x,(rt tI y),(↑(List.length y):Int)⟩:ma6)) (⟨0⟩:J8));(sl ((cnE tI y)&&true) (sl (Nat.beq t1.1 1) (some ((b false),[])) (sl (Nat.beq t1.1 2) (some ((b true),[])) none)) none)
noncomputable def ma7 (x:Int) (y:List Int):Bool:=P4 (one r1B) (va0 x y)
noncomputable def ma8 (x:Int) (y:List Int):Bool:=okO (one r1B) (va0 x y)
noncomputable def cb6:Sum:=la2 cI (ia2 tI) (fun x y=>.guard (ma8 x y) (.ret ((one r1B).enc (ma7 x y),[])))
theorem xb1:j6 prog G 164 cb6:=nb9 (bd Ne3 fc8) (one r1B) (o:=va0) fun x y=>Da2 (.s .p (.s (.s .p (.b (.u La9.ls))) .p)) [La9.pr] (by kernel_rfl) (.cons Xb7 .nil) (by kernel_rfl)
noncomputable def Xb8:List (Nat×Sum):=[]
theorem Qb7:l5 prog G Xb8:=trivial
noncomputable def xa7 (x:Int):Int:=(if (W (0 - x)) > x then (W (0 - x)) else x)
noncomputable def pb2:Sum:=ja7 cI (fun x=>.ret ((one r1I).enc (xa7 x),[]))
theorem Xb9:j6 prog G 214 pb2:=Ib4 (bd Pe6 Qb7) fun x=>w6 (by kernel_rfl)
noncomputable def Ma0:List (Nat×Sum):=[(214,pb2)]
theorem Yb0:l5 prog G Ma0:=⟨Xb9,trivial⟩
structure Y8 where
 za1:List Int
 is7:Int
 is8:Int
structure K5 where
 is3:Int
 is5:Int
noncomputable def Qb8 (p:Y8) (s:K5):St:=⟨(ra 3 ((i s.is3)::(.unk::((i s.is5)::((eL tI p.za1)::((i p.is7)::((i p.is8)::(ra 15 [])))))))),[]⟩
noncomputable def aa3 {α:Type} (k:K5→α) (e:Nat→α) (z:α) (p:Y8) (s:K5):α:=(sl (decide (s.is5 > 0)) (sl (s.is5==0) z (k ⟨s.is5,(Int.tmod s.is3 s.is5)⟩)) (e 1))
noncomputable def U9 (p:Y8) (s:K5):Stp K5:=aa3 .next .exit .fail p s
noncomputable def Ha3:Lo Y8 K5:=⟨En Ma0,0,Sd5,[1,1,0,1,4,4,1,1,0,4,1,1,1,4,4],[3,5,6,7,8],.p,[⟨(ru2 3 ((.s (.o (.int .i64)))::((.s (.o .unk))::((.s (.o (.int .i64)))::((.s (.c 1 (nL tI)))::((.s (.o (.int .i64)))::((.s (.o (.int .i64)))::(ru2 15 [])))))))),[],fun a H=>(⟨(rL tI (slT a 6)),(toI (slT a 7)),(toI (slT a 8))⟩,⟨(toI (slT a 3)),(toI (slT a 5))⟩)⟩],U9,[(some 2,fun p s=>⟨(ra 3 ((i s.is3)::(.unk::((i s.is5)::((eL tI p.za1)::((i p.is7)::((i p.is8)::(ra 7 ((i s.is5)::((b (decide (s.is5 > 0)))::(ra 6 []))))))))))),[]⟩)],Qb8⟩
theorem Qb9:Ha3.Ok:=Lo.ok [] (by kernel_rfl) .nil rfl (.cons (fun a H=>by kernel_rfl) .nil) fun p s=>(.of @aa3 (fun F _ _ _ _ _=>by unfold aa3;(repeat' apply o0 (f:=F))<;>rfl) (by kernel_rfl))
structure ia8 where
 is7:Int
structure H4 where
 is3:Int
 za1:List Int
 is8:Int
noncomputable def Rb0 (p:ia8) (s:H4):St:=⟨(ra 3 ((i s.is3)::(.unk::(.unk::((eL tI s.za1)::((i p.is7)::((i s.is8)::(ra 15 [])))))))),[]⟩
noncomputable def aa4 {α:Type} (k:H4→α) (e:Nat→α) (z:α) (p:ia8) (s:H4):α:=let t1:=(xa7 (gL tI s.za1 s.is8.toNat));let t2:=(lp (U9 (⟨(rt tI s.za1),p.is7,s.is8⟩:Y8)) (⟨s.is3,t1⟩:K5));(sl (decide (s.is8 < p.is7)) (sl (inB s.is8 (List.length s.za1)) (sl ((gL tI s.za1 s.is8.toNat)==(-9223372036854775808)) (e 1) (sl ((cnE tI s.za1)&&true) (sl (Nat.beq t2.1 1) (k ⟨t2.2.is3,(rt tI s.za1),(W (s.is8+1))⟩) z) z)) z) (e 2))
noncomputable def ea4 (p:ia8) (s:H4):Stp H4:=aa4 .next .exit .fail p s
noncomputable def Ha4:Lo ia8 H4:=⟨En Ma0,0,Sd5,[1,1,0,1,4,4],[3,6,7,8],(.s .p (.s .p (.s (.b (.s .p (.s .p (.s .p (.b (.u Ha3.ls)))))) .p))),[⟨(ru2 3 ((.s (.o (.int .i64)))::((.s (.o .unk))::((.s (.o .unk))::((.s (.c 1 (nL tI)))::((.s (.o (.int .i64)))::((.s (.o (.int .i64)))::(ru2 15 [])))))))),[],fun a H=>(⟨(toI (slT a 7))⟩,⟨(toI (slT a 3)),(rL tI (slT a 6)),(toI (slT a 8))⟩)⟩],ea4,[(none,fun p s=>⟨[(i 0)],[]⟩),(some 0,fun p s=>⟨(ra 3 ((i s.is3)::(.unk::(.unk::((eL tI s.za1)::((i p.is7)::((i s.is8)::((b (decide (s.is8 < p.is7)))::(ra 14 []))))))))),[]⟩)],Rb0⟩
theorem Rb1:Ha4.Ok:=Lo.ok [Ha3.pr] (by kernel_rfl) (.cons Qb9 .nil) rfl (.cons (fun a H=>by kernel_rfl) .nil) fun p s=>(.of @aa4 (fun F _ _ _ _ _=>by unfold aa4;(repeat' apply o0 (f:=F))<;>rfl) (by kernel_rfl))
noncomputable def qa4 (x:List Int):Option (b7×List b8):=let t1:=(lp (ea4 (⟨(↑(List.length x):Int)⟩:ia8)) (⟨0,(rt tI x),0⟩:H4));(sl ((cnE tI x)&&true) (sl (Nat.beq t1.1 1) (some ((i 0),[])) (sl (Nat.beq t1.1 2) (some ((i t1.2.is3),[])) none)) none)
noncomputable def Ba8 (x:List Int):Int:=P4 (one r1I) (qa4 x)
noncomputable def Ba9 (x:List Int):Bool:=okO (one r1I) (qa4 x)
noncomputable def xb2:Sum:=ja7 (ia2 tI) (fun x=>.guard (Ba9 x) (.ret ((one r1I).enc (Ba8 x),[])))
theorem fc9:j6 prog G 165 xb2:=Da0 (bd Ne4 Yb0) (one r1I) (o:=qa4) fun x=>Da2 (.s .p (.s .p (.s (.s .p (.b (.u Ha4.ls))) .p))) [Ha4.pr] (by kernel_rfl) (.cons Rb1 .nil) (by kernel_rfl)
noncomputable def yc8:List (Nat×Sum):=[(164,cb6),(165,xb2)]
theorem nc6:l5 prog G yc8:=⟨xb1,fc9,trivial⟩
noncomputable def Aa5 (x:Pln):Option (b7×List b8):=let t1:=(ma7 4608 [x.n.x,x.n.y,x.n.z]);let t2:=(Ba8 [x.n.x,x.n.y,x.n.z]);let t3:=(ma7 2097152 [x.b]);(sl (ma8 4608 [x.n.x,x.n.y,x.n.z]) (sl t1 (sl (Ba9 [x.n.x,x.n.y,x.n.z]) (sl (t2==1) (sl (ma8 2097152 [x.b]) (some ((b t3),[])) none) (some ((b false),[]))) none) (some ((b false),[]))) none)
noncomputable def Oa3 (x:Pln):Bool:=P4 (one r1B) (Aa5 x)
noncomputable def Oa4 (x:Pln):Bool:=okO (one r1B) (Aa5 x)
noncomputable def Nb4:Sum:=ja7 (W9 tP) (fun x=>.guard (Oa4 x) (.ret ((one r1B).enc (Oa3 x),[])))
theorem yc9:j6 prog G 85 Nb4:=Da0 (bd b85 nc6) (one r1B) (o:=Aa5) fun x=>w6 (by kernel_rfl)
noncomputable def nc7:List (Nat×Sum):=[(85,Nb4)]
theorem gc0:l5 prog G nc7:=⟨yc9,trivial⟩
noncomputable def va1 (x:Pln):Option (b7×List b8):=let t1:=(Oa3 x);(sl (Oa4 x) (some ((b (!t1)),[])) none)
noncomputable def Ha5 (x:Pln):Bool:=P4 (one r1B) (va1 x)
noncomputable def Ha6 (x:Pln):Bool:=okO (one r1B) (va1 x)
noncomputable def Eb2:Sum:=ja7 (W9 tP) (fun x=>.guard (Ha6 x) (.ret ((one r1B).enc (Ha5 x),[])))
theorem nc8:j6 prog G 84 Eb2:=Da0 (bd b84 gc0) (one r1B) (o:=va1) fun x=>w6 (by kernel_rfl)
structure S6 where
 c9:List Pln
noncomputable def va2:List (Nat×Sum):=[(84,Eb2)]
theorem Xa2:l5 prog G va2:=⟨nc8,trivial⟩
structure H5 where
 c9:List Pln
 is7:Int
structure o4 where
 is8:Int
noncomputable def Ta9 (p:H5) (s:o4):St:=⟨((eL tP p.c9)::((.fn 84 [])::(ra 5 ((i p.is7)::((i s.is8)::(ra 10 [])))))),[]⟩
noncomputable def C8 {α:Type} (k:o4→α) (e:Nat→α) (z:α) (p:H5) (s:o4):α:=let t1:=(Ha5 (gL tP p.c9 s.is8.toNat));(sl (decide (s.is8 < p.is7)) (sl (inB s.is8 (List.length p.c9)) (sl (Ha6 (gL tP p.c9 s.is8.toNat)) (sl t1 (e 1) (k ⟨(W (s.is8+1))⟩)) z) z) (e 2))
noncomputable def E7 (p:H5) (s:o4):Stp o4:=C8 .next .exit .fail p s
noncomputable def ba0:Lo H5 o4:=⟨En va2,0,Bd7,[1,0,1,4,4],[0,1,7,8],.p,[⟨((.s (.c 4 (nL tP)))::((.s (.o (.fn 84)))::(ru2 5 ((.s (.o (.int .i64)))::((.s (.o (.int .i64)))::(ru2 10 [])))))),[],fun a H=>(⟨(rL tP (slT a 0)),(toI (slT a 7))⟩,⟨(toI (slT a 8))⟩)⟩],E7,[(none,fun p s=>⟨[(i s.is8)],[]⟩),(some 0,fun p s=>⟨((eL tP p.c9)::((.fn 84 [])::(ra 5 ((i p.is7)::((i s.is8)::((b (decide (s.is8 < p.is7)))::(ra 9 []))))))),[]⟩)],Ta9⟩
theorem Ua0:ba0.Ok:=Lo.ok [] (by kernel_rfl) .nil rfl (.cons (fun a H=>by kernel_rfl) .nil) fun p s=>(.of @C8 (fun F _ _ _ _ _=>by unfold C8;(repeat' apply o0 (f:=F))<;>rfl) (by kernel_rfl))
structure S7 where
 alt:Nat
 is0:Int
noncomputable def D5 {α:Type} (kk:S7→α) (x:S6):α:=let t1:=(lp (E7 (⟨(rt tP x.c9),(↑(List.length x.c9):Int)⟩:H5)) (⟨0⟩:o4));(sl ((cnE tP x.c9)&&true) (sl (Nat.beq t1.1 1) (kk ⟨1,t1.2.is8⟩) (sl (Nat.beq t1.1 2) (kk ⟨1,(-1)⟩) (kk ⟨0,0⟩))) (kk ⟨0,0⟩))
noncomputable def ga6 (x:S6):S7:=D5 (fun r=>r) x
noncomputable def ea5 (x:S6) (r:S7):DT (b7×List b8):=(.ite (Nat.beq r.alt 1) (.ret ((i r.is0),[])) .fail)
theorem gb0 {α β:Type} (F:α→β) (kk:S7→α) (x:S6):F (D5 kk x)=D5 (fun r=>F (kk r)) x:=by unfold D5;(repeat' apply o0 (f:=F))<;>rfl
noncomputable def ya4:Sum:=ab8 ⟨[(.s (.c 4 (nL tP))),(.s (.o (.fn 84)))],[],fun a H=>(⟨(rL tP (slT a 0))⟩,())⟩ (fun x=>ea5 x (ga6 x))
theorem cb7:j6 prog G 163 ya4:=S1 (enc:=fun x=>⟨[(eL tP x.c9),(.fn 84 [])],[]⟩) (fun a H=>by kernel_rfl) (bd se9 Xa2) fun x=>Da2 (.s .p (.s (.s .p (.b (.u ba0.ls))) .p)) [ba0.pr] (by kernel_rfl) (.cons Ua0 .nil) (Eq.trans (b:=D5 (fun r=>(ea5 x r).run) x) (by kernel_rfl) (gb0 (fun r=>(ea5 x r).run) (fun r=>r) x).symm)
structure M0 where
 c9:List Pln
noncomputable def Qa6:List (Nat×Sum):=[(163,ya4)]
theorem Ma1:l5 prog G Qa6:=⟨cb7,trivial⟩
structure M1 where
 alt:Nat
 bs0:Bool
noncomputable def A4 {α:Type} (kk:M1→α) (x:M0):α:=let t1:=(ga6 ⟨(rt tP x.c9)⟩);(sl ((cnE tP x.c9)&&true) (sl (Nat.beq t1.alt 1) (kk ⟨1,(decide (t1.is0≥0))⟩) (kk ⟨0,false⟩)) (kk ⟨0,false⟩))
noncomputable def Z5 (x:M0):M1:=A4 (fun r=>r) x
noncomputable def X2 (x:M0) (r:M1):DT (b7×List b8):=(.ite (Nat.beq r.alt 1) (.ret ((b r.bs0),[])) .fail)
theorem Ua1 {α β:Type} (F:α→β) (kk:M1→α) (x:M0):F (A4 kk x)=A4 (fun r=>F (kk r)) x:=by unfold A4;(repeat' apply o0 (f:=F))<;>rfl
noncomputable def qa5:Sum:=ab8 ⟨[(.s (.c 4 (nL tP))),(.s (.o (.fn 84)))],[],fun a H=>(⟨(rL tP (slT a 0))⟩,())⟩ (fun x=>X2 x (Z5 x))
theorem Qa7:j6 prog G 83 qa5:=S1 (enc:=fun x=>⟨[(eL tP x.c9),(.fn 84 [])],[]⟩) (fun a H=>by kernel_rfl) (bd b83 Ma1) fun x=>w6 (Eq.trans (b:=A4 (fun r=>(X2 x r).run) x) (by kernel_rfl) (Ua1 (fun r=>(X2 x r).run) (fun r=>r) x).symm)
noncomputable def Ic4:List (Nat×Sum):=[(83,qa5)]
theorem zc0:l5 prog G Ic4:=⟨Qa7,trivial⟩
noncomputable def Ha7 (x:List Pln):Option (b7×List b8):=let t1:=(Z5 ⟨(rt tP x)⟩);(sl (decide ((↑(List.length x):Int) > 48)) (some ((i 2),[])) (sl ((cnE tP x)&&true) (sl (Nat.beq t1.alt 1) (sl t1.bs0 (some ((i 12),[])) (some ((i 0),[]))) none) none))
noncomputable def Ha8 (x:List Pln):Int:=P4 (one r1I) (Ha7 x)
noncomputable def Ha9 (x:List Pln):Bool:=okO (one r1I) (Ha7 x)
noncomputable def ub1:Sum:=ja7 (ia2 tP) (fun x=>.guard (Ha9 x) (.ret ((one r1I).enc (Ha8 x),[])))
theorem Nb5:j6 prog G 15 ub1:=Da0 (bd b15 zc0) (one r1I) (o:=Ha7) fun x=>w6 (by kernel_rfl)
noncomputable def nc9:List (Nat×Sum):=[(15,ub1)]
theorem gc1:l5 prog G nc9:=⟨Nb5,trivial⟩
noncomputable def va3 (x:List Pln):Option (b7×List b8):=let t1:=(Ha8 (rt tP x));(sl (okE tP x) (sl (Ha9 (rt tP x)) (some ((b (t1 != 0)),[])) none) none)
noncomputable def Ia0 (x:List Pln):Bool:=P4 (one r1B) (va3 x)
noncomputable def Ia1 (x:List Pln):Bool:=okO (one r1B) (va3 x)
noncomputable def Eb3:Sum:=ja7 (ia2 tP) (fun x=>.guard (Ia1 x) (.ret ((one r1B).enc (Ia0 x),[])))
theorem oc0:j6 prog G 168 Eb3:=Da0 (bd Ne7 gc1) (one r1B) (o:=va3) fun x=>w6 (by kernel_rfl)
end Go.Ev.Ce
end
namespace Go.Proofs
open Go.Shelf
set_option maxRecDepth 100000 in
def Ce.growP_ren:Go.Shelf.Ren:=⟨fun | 4=>216 | n=>n,fun | 22=>25 | 25=>50 | 3=>3 | 4=>4 | 9=>9 | 20=>20 | 0=>0 | n=>n,fun | n=>n⟩
set_option maxRecDepth 100000 in
theorem Ce.growP:Go.Proofs.Lays8.n4 Tryz.prog Ce.growP_ren:={
 mixed:=by kernel_rfl
 f4:=⟨Tryz.f216.name,by decide,Tryz.func216.trans (congrArg some (by kernel_rfl))⟩
 t0:=Tryz.underlying0
 a0:=Tryz.isAgg0
 z0:=Tryz.sizeOf0
 v0:=Tryz.zeroValue0
 t3:=Tryz.underlying3
 a3:=Tryz.isAgg3
 z3:=Tryz.sizeOf3
 v3:=Tryz.zeroValue3
 t4:=Tryz.underlying4
 a4:=Tryz.isAgg4
 z4:=Tryz.sizeOf4
 v4:=Tryz.zeroValue4
 t9:=Tryz.underlying9
 a9:=Tryz.isAgg9
 z9:=Tryz.sizeOf9
 v9:=Tryz.zeroValue9
 t20:=Tryz.underlying20
 a20:=Tryz.isAgg20
 z20:=Tryz.sizeOf20
 v20:=Tryz.zeroValue20
 t22:=Tryz.underlying25
 a22:=Tryz.isAgg25
 z22:=Tryz.sizeOf25
 v22:=Tryz.zeroValue25 }
end Go.Proofs
namespace Go.Ev.Ce
open Go Go.Ev Go.Proofs
noncomputable def Wc9:List b7:=[i 0,i 0,i 0,i 0]
noncomputable def za4:Sum:=fun args blks=>match args,blks with
 | [.v (.slice none 0 0), .v (.int .i64 n)], [] => .ite (n == 0) (.ret (.v (.slice none 0 0), []))
   (.guard (Bool.and (decide (0 < n)) (Nat.ble (n.toNat*32) room)) (.ret (.sl 0 0 0 0,[⟨50,4,List.replicate n.toNat Wc9,true,false,0⟩])))
 | _,_=>.fail
theorem z50:zeT Tryz.prog 50=some Wc9:=by kernel_rfl
theorem s50:szT Tryz.prog 50=4:=by kernel_rfl
theorem y50:byT Tryz.prog 50=32:=by kernel_rfl
theorem t25:Ce.growP_ren.t 25=50:=by kernel_rfl
theorem f4:Ce.growP_ren.f 4=216:=by kernel_rfl
set_option maxRecDepth 100000 in
theorem Eb4:j6 prog G 216 za4:=by
 intro args blks r out he W ρ F w args' hH hlen hargs hG
 refine⟨⟨_,Tryz.func216,by kernel_rfl,of_decide_eq_true (by kernel_rfl)⟩,?_⟩
 unfold za4 at he
 split at he
 case h_2=>cases he
 rename_i n
 match args',hlen with
 | [v0,v1],_ =>
 have e0:=da3 (hargs 0 _ _ rfl rfl)
 have e1:=da3 (hargs 1 _ _ rfl rfl)
 subst e0 e1
 rcases DT.run_ite_some he with⟨h0,he⟩ | ⟨h0,he⟩
 ·have h0:n=0:=by simpa using h0
  subst h0
  injection he with he;injection he with q1 q2;subst q1 q2
  have:=Any8.slices_Grow_room Ce.growP none 0 0 0 w (Nat.le_refl _) (by omega) (by omega) (by omega)
  rw[f4] at this
  refine this.mono fun e w' ⟨h1,h2⟩=>?_
  subst h1 h2
  exact⟨_,rfl,ρ,F,.refl,hH,.ofv _⟩
 ·obtain⟨hg,he⟩:=DT.run_guard_some he
  rw[Bool.and_eq_true,decide_eq_true_eq] at hg
  obtain⟨hpos,hroom⟩:=hg
  have hroom:=Nat.le_of_ble_eq_true hroom
  unfold room at hroom
  obtain⟨m,rfl⟩:=Int.eq_ofNat_of_zero_le (Int.le_of_lt hpos)
  have hm:0 < m:=by omega
  have he:some (b7.sl 0 0 0 0,[(⟨50,4,List.replicate m Wc9,true,false,0⟩:b8)])=some (r,out):=he
  injection he with he;injection he with q1 q2;subst q1 q2
  obtain⟨ti,zv,hi,hzz,hzr,hone⟩:=Ka9 (E:=En []) z50
  have hi:Tryz.prog.info? 50=some ti:=hi
  have hts:ti.size=4:=by have:=s50;simp only[szT,hi] at this;exact this
  have hby:ti.bytes=32:=by have:=y50;simp only[byT,hi] at this;exact this
  have hzs:zv.cells.size=4:=by
   have:=congrArg List.length hzr
   simpa [Wc9] using this.symm
  have hroom':m*32≤140737488355328:=hroom
  have:=Any8.slices_Grow_grow Ce.growP ti zv (by rw[t25];exact hi) hzz (by omega) none 0 0 m [] w (Nat.le_refl _) (by omega) (by rw[hby];omega) (by omega) (by simp) (fun _=>rfl) (fun a ha=>by cases ha)
  rw[f4,t25] at this
  refine this.mono fun e w' ⟨h1,h2⟩=>?_
  have hcap:=grownCap_ge w (0+m) 0 50
  have hcap2:=grownCap_le_maxLen w (0+m) 0 50 (by unfold maxLen;omega)
  subst h1
  generalize grownCap w (0+m) 0 50=G' at *
  have hsz:∀ q,(Builtin.zeroCells zv.cells q).size=q*4:=fun q=>by simp[Builtin.zeroCells,hzs]
  have hcc:(#[]++Builtin.zeroCells zv.cells (0+m - 0)++Builtin.zeroCells zv.cells (G' - (0+m))).size=G'*4:=by
   rw[Array.size_append,Array.size_append,hsz,hsz]
   simp
   omega
  have hobj:w'.heap[w.heap.size]?=some (.cells (#[]++Builtin.zeroCells zv.cells (0+m - 0)++Builtin.zeroCells zv.cells (G' - (0+m))) 50 (0,0)):=by
   rw[h2]
   exact World.alloc_heap_new w.drew _
  have hold:∀ k,k < w.heap.size→w'.heap[k]?=w.heap[k]?:=fun k hk=>by
   rw[h2]
   simp only[World.alloc,Array.getElem?_push,World.drew]
   rw[if_neg (by omega)]
  have hws:w'.heap.size=w.heap.size+1:=by rw[h2];exact Array.size_push ..
  obtain⟨h6,h7⟩:=hH.newAt (w':=w') (by rw[h2];rfl) (by rw[h2];rfl) (by rw[h2];rfl) (by rw[h2];exact Nat.le_succ _) (by omega) hold w.heap.size (Nat.le_refl _) 50 4 (List.replicate m Wc9) _ 50 hobj
   (fun j r hr=>by rw[List.getElem?_replicate] at hr;split at hr<;>cases hr;rfl) (by rw[List.length_replicate,hcc];omega)
   (fun j r c x hr hx=>by
    have hjm:j < m:=by
     have:=(List.getElem?_eq_some_iff.1 hr).1
     simpa using this
    rw[List.getElem?_replicate,if_pos hjm] at hr
    injection hr with hr
    subst hr
    have hc4:c < 4:=(List.getElem?_eq_some_iff.1 hx).1
    rw[hzr,List.getElem?_map] at hx
    have hcz:c < zv.cells.size:=by omega
    have hq:zv.cells.toList[c]?=some zv.cells[c]:=by simp[hcz]
    rw[hq] at hx
    injection hx with hx
    subst hx
    refine⟨zv.cells[c],?_,.v _ (hone _ (by simp))⟩
    have hlt:j*4+c < m*4:=by omega
    rw[Array.append_assoc,Array.empty_append,Array.getElem?_append_left (by rw[hsz];omega)]
    have hm4:(j*4+c) % 4=c:=by omega
    simp only[Builtin.zeroCells,hzs]
    rw[Array.getElem?_map,Array.getElem?_range]
    rw[if_pos (by omega)]
    simp[hm4,hcz])
   (fun _=>rfl)
  refine⟨_,rfl,_,F,h6,h7,.val (.cell ?_)⟩
  refine .sl 0 0 0 0 _ _ { et:=50,es:=4,elems:=List.replicate m Wc9,own:=true,dead:=false,g:=0 } rfl rfl (Nat.le_refl _) (Nat.zero_le _) rfl hcap2 fun _=>⟨.inr ?_,?_,by simp⟩
  ·simp[ρnew]
  ·simp only[ρnew,List.length_nil,if_true]
   rw[hcc,Nat.zero_add]
end Go.Ev.Ce
section
namespace Go.Ev.Ce
open Go Go.Ev Go.Ev.L Go.Proofs
set_option maxRecDepth 100000
noncomputable def pa2:List (Nat×Sum):=[(216,za4)]
theorem pb3:l5 prog G pa2:=⟨Eb4,trivial⟩
structure N6 where
 ta2:List (List Pln)
 Fc1:List (List Pln)
 Ka2:Int
structure q9 where
 is3:Int
 V0:Int
noncomputable def lb6 (p:N6) (s:q9):St:=⟨((eL (tLs tP) p.ta2)::(.unk::(.unk::((i s.is3)::(ra 5 ((eL (tLs tP) p.Fc1)::((i p.Ka2)::((i s.V0)::(ra 24 []))))))))),[]⟩
noncomputable def K2 {α:Type} (k:q9→α) (e:Nat→α) (z:α) (p:N6) (s:q9):α:=(sl (decide (s.V0 < p.Ka2)) (sl (inB s.V0 (List.length p.Fc1)) (sl (decide ((W (s.is3+(↑(List.length (gL (tLs tP) p.Fc1 s.V0.toNat)):Int))) < 0)) z (k ⟨(W (s.is3+(↑(List.length (gL (tLs tP) p.Fc1 s.V0.toNat)):Int))),(W (s.V0+1))⟩)) z) (e 1))
noncomputable def G3 (p:N6) (s:q9):Stp q9:=K2 .next .exit .fail p s
noncomputable def ma9:Lo N6 q9:=⟨En pa2,0,Sd6,[1,1,0,1,4,4],[0,3,9,10,11],.p,[⟨((.s (.c 1 (nL (tLs tP))))::((.s (.o .unk))::((.s (.o .unk))::((.s (.o (.int .i64)))::(ru2 5 ((.s (.c 1 (nL (tLs tP))))::((.s (.o (.int .i64)))::((.s (.o (.int .i64)))::(ru2 24 []))))))))),[],fun a H=>(⟨(rL (tLs tP) (slT a 0)),(rL (tLs tP) (slT a 9)),(toI (slT a 10))⟩,⟨(toI (slT a 3)),(toI (slT a 11))⟩)⟩],G3,[(some 0,fun p s=>⟨((eL (tLs tP) p.ta2)::(.unk::(.unk::((i s.is3)::(ra 5 ((eL (tLs tP) p.Fc1)::((i p.Ka2)::((i s.V0)::((b (decide (s.V0 < p.Ka2)))::(ra 23 [])))))))))),[]⟩)],lb6⟩
theorem lb7:ma9.OkM:=Lo.okM [] (by kernel_rfl) .nil rfl (.cons (fun a H=>by kernel_rfl) .nil) fun p s=>(.of @K2 (fun F _ _ _ _ _=>by unfold K2;(repeat' apply o0 (f:=F))<;>rfl) (by kernel_rfl))
structure r4 where
 la5:List (List Pln)
 qd3:Int
structure k9 where
 ph:Nat
 hb9:Int
 ns6:Nat
 eh0:List (List b7)
noncomputable def gb1 (p:r4) (s:k9):St:=⟨(ra 6 ((.v (.slice none 0 0))::(ra 18 ((eL (tLs tP) p.la5)::((i p.qd3)::((i s.hb9)::(ra 8 []))))))),[]⟩
noncomputable def gb2 (p:r4) (s:k9):St:=⟨(ra 6 ((.sl 0 0 s.ns6 0)::(ra 18 ((eL (tLs tP) p.la5)::((i p.qd3)::((i s.hb9)::(ra 8 []))))))),[⟨50,4,s.eh0,true,false,0⟩]⟩
noncomputable def lb8 (p:r4) (s:k9):St:=(sel (Nat.beq s.ph 1) (gb2 p s) (gb1 p s))
noncomputable def A0 {α:Type} (k:k9→α) (e:Nat→α) (z:α) (p:r4) (s:k9):α:=(sl (decide (s.hb9 < p.qd3)) (sl (inB s.hb9 (List.length p.la5)) (sl (Nat.beq (len (n7 (fun k=>(tP).row (gL tP (gL (tLs tP) p.la5 s.hb9.toNat) k)) (List.range (List.length (gL (tLs tP) p.la5 s.hb9.toNat))))) 0) (k ⟨0,(W (s.hb9+1)),0,[]⟩) z) z) (e 1))
noncomputable def A1 {α:Type} (k:k9→α) (e:Nat→α) (z:α) (p:r4) (s:k9):α:=(sl (decide (s.hb9 < p.qd3)) (sl (inB s.hb9 (List.length p.la5)) (sl (Nat.ble (s.ns6+(len (n7 (fun k=>(tP).row (gL tP (gL (tLs tP) p.la5 s.hb9.toNat) k)) (List.range (List.length (gL (tLs tP) p.la5 s.hb9.toNat)))))) (len s.eh0)) (k ⟨1,(W (s.hb9+1)),(s.ns6+(len (n7 (fun k=>(tP).row (gL tP (gL (tLs tP) p.la5 s.hb9.toNat) k)) (List.range (List.length (gL (tLs tP) p.la5 s.hb9.toNat)))))),(app (I4 s.eh0 s.ns6) (app (n7 (fun k=>(tP).row (gL tP (gL (tLs tP) p.la5 s.hb9.toNat) k)) (List.range (List.length (gL (tLs tP) p.la5 s.hb9.toNat)))) (g9 s.eh0 (s.ns6+(len (n7 (fun k=>(tP).row (gL tP (gL (tLs tP) p.la5 s.hb9.toNat) k)) (List.range (List.length (gL (tLs tP) p.la5 s.hb9.toNat)))))))))⟩) z) z) (e 2))
noncomputable def B1 (p:r4) (s:k9):Stp k9:=(sel (Nat.beq s.ph 1) (A1 .next .exit .fail p s) (A0 .next .exit .fail p s))
noncomputable def na0:Lo r4 k9:=⟨En pa2,0,Sd6,[1,1,1,1,0,1,4,4],[6,25,26,27],.p,[⟨(ru2 6 ((.s (.o .nil))::(ru2 18 ((.s (.c 1 (nL (tLs tP))))::((.s (.o (.int .i64)))::((.s (.o (.int .i64)))::(ru2 8 []))))))),[],fun a H=>(⟨(rL (tLs tP) (slT a 25)),(toI (slT a 26))⟩,⟨0,(toI (slT a 27)),0,[]⟩)⟩,⟨(ru2 6 ((.s (.o (.sl 0 0 (some 0) none)))::(ru2 18 ((.s (.c 1 (nL (tLs tP))))::((.s (.o (.int .i64)))::((.s (.o (.int .i64)))::(ru2 8 []))))))),[⟨50,4,true,none⟩],fun a H=>(⟨(rL (tLs tP) (slT a 25)),(toI (slT a 26))⟩,⟨1,(toI (slT a 27)),(slN (slT a 6)),(elT H 0)⟩)⟩],B1,[(some 2,fun p s=>⟨(ra 6 ((.v (.slice none 0 0))::(ra 18 ((eL (tLs tP) p.la5)::((i p.qd3)::((i s.hb9)::((b (decide (s.hb9 < p.qd3)))::(ra 7 [])))))))),[]⟩),(some 2,fun p s=>⟨(ra 6 ((.sl 0 0 s.ns6 0)::(ra 18 ((eL (tLs tP) p.la5)::((i p.qd3)::((i s.hb9)::((b (decide (s.hb9 < p.qd3)))::(ra 7 [])))))))),[⟨50,4,s.eh0,true,false,0⟩]⟩)],lb8⟩
theorem lb9:na0.OkM:=Lo.okM [] (by kernel_rfl) .nil rfl (.cons (fun a H=>by kernel_rfl) (.cons (fun a H=>by kernel_rfl) .nil)) fun p s=>(.sel (Nat.beq s.ph 1) (.of @A1 (fun F _ _ _ _ _=>by unfold A1;(repeat' apply o0 (f:=F))<;>rfl) (by kernel_rfl)) (.of @A0 (fun F _ _ _ _ _=>by unfold A0;(repeat' apply o0 (f:=F))<;>rfl) (by kernel_rfl)))
structure ga3 where
 alt:Nat
 ns0:Nat
 eh0:List (List b7)
noncomputable def K7 {α:Type} (kk:ga3→α) (x:List (List Pln)):α:=let t1:=(lp (G3 (⟨(rt (tLs tP) x),(rt (tLs tP) x),(↑(List.length x):Int)⟩:N6)) (⟨0,0⟩:q9));let t2:=(lp (B1 (⟨(rt (tLs tP) (rt (tLs tP) x)),(↑(List.length (rt (tLs tP) x)):Int)⟩:r4)) (⟨0,0,0,[]⟩:k9));let t3:=(lp (B1 (⟨(rt (tLs tP) (rt (tLs tP) x)),(↑(List.length (rt (tLs tP) x)):Int)⟩:r4)) (⟨1,0,0,(List.replicate t1.2.is3.toNat Wc9)⟩:k9));(sl ((cnE (tLs tP) x)&&((cnE (tLs tP) x)&&true)) (sl (Nat.beq t1.1 1) (sl (t1.2.is3==0) (sl ((cnE (tLs tP) (rt (tLs tP) x))&&true) (sl (Nat.beq t2.1 1) (kk ⟨1,0,[]⟩) (sl (Nat.beq t2.1 2) (kk ⟨2,t2.2.ns6,t2.2.eh0⟩) (kk ⟨0,0,[]⟩))) (kk ⟨0,0,[]⟩)) (sl (Bool.and (decide (0 < t1.2.is3)) (Nat.ble (t1.2.is3.toNat*32) room)) (sl ((cnE (tLs tP) (rt (tLs tP) x))&&true) (sl (Nat.beq t3.1 1) (kk ⟨1,0,[]⟩) (sl (Nat.beq t3.1 2) (kk ⟨2,t3.2.ns6,t3.2.eh0⟩) (kk ⟨0,0,[]⟩))) (kk ⟨0,0,[]⟩)) (kk ⟨0,0,[]⟩))) (kk ⟨0,0,[]⟩)) (kk ⟨0,0,[]⟩))
noncomputable def ga4 (x:List (List Pln)):ga3:=K7 (fun r=>r) x
noncomputable def pa3 (r:ga3):DT (b7×List b8):=(.ite (Nat.beq r.alt 1) (.ret ((.v (.slice none 0 0)),[])) (.ite (Nat.beq r.alt 2) (.ret ((.sl 0 0 r.ns0 0),[⟨50,4,r.eh0,true,false,0⟩])) .fail))
theorem xb8 {α β:Type} (F:α→β) (kk:ga3→α) (x:List (List Pln)):F (K7 kk x)=K7 (fun r=>F (kk r)) x:=by unfold K7;(repeat' apply o0 (f:=F))<;>rfl
noncomputable def Ka5:Sum:=ja7 (ia2 (tLs tP)) (fun x=>pa3 (ga4 x))
theorem ub2:j6 prog G 169 Ka5:=Ib4 (bd Ne8 pb3) fun x=>oe1 (.s .p (.s .p (.s (.s .p (.b (.u ma9.lsM))) (.s .p (.s (.s .p (.b (.u na0.lsM))) .p))))) [ma9.prM,na0.prM] (by kernel_rfl) (.cons lb7 (.cons lb9 .nil)) (Eq.trans (b:=K7 (fun r=>(pa3 r).run) x) (by kernel_rfl) (xb8 (fun r=>(pa3 r).run) (fun r=>r) x).symm)
noncomputable def wd1:List (Nat×Sum):=[(169,Ka5)]
theorem kd5:l5 prog G wd1:=⟨ub2,trivial⟩
noncomputable def pb4 (x:List (List Pln)):Option (b7×List b8):=let t1:=(ga4 (rt (tLs tP) x));(sl (okE (tLs tP) x) (sl (Nat.beq t1.alt 1) (some ((.sl 0 0 6 0),[⟨50,4,[[(i 1),(i 0),(i 0),(i 24)],[(i (-1)),(i 0),(i 0),(i 24)],[(i 0),(i 1),(i 0),(i 24)],[(i 0),(i (-1)),(i 0),(i 24)],[(i 0),(i 0),(i 1),(i 24)],[(i 0),(i 0),(i (-1)),(i 24)]],true,false,0⟩])) (sl (Nat.beq t1.alt 2) (sl (Nat.beq t1.ns0 (len t1.eh0)&&Nat.ble ((t1.ns0+1)*32) room) (sl (Nat.beq (t1.ns0+1) (len (app t1.eh0 [[(i 1),(i 0),(i 0),(i 24)]]))&&Nat.ble (((t1.ns0+1)+1)*32) room) (sl (Nat.beq ((t1.ns0+1)+1) (len (app (app t1.eh0 [[(i 1),(i 0),(i 0),(i 24)]]) [[(i (-1)),(i 0),(i 0),(i 24)]]))&&Nat.ble ((((t1.ns0+1)+1)+1)*32) room) (sl (Nat.beq (((t1.ns0+1)+1)+1) (len (app (app (app t1.eh0 [[(i 1),(i 0),(i 0),(i 24)]]) [[(i (-1)),(i 0),(i 0),(i 24)]]) [[(i 0),(i 1),(i 0),(i 24)]]))&&Nat.ble (((((t1.ns0+1)+1)+1)+1)*32) room) (sl (Nat.beq ((((t1.ns0+1)+1)+1)+1) (len (app (app (app (app t1.eh0 [[(i 1),(i 0),(i 0),(i 24)]]) [[(i (-1)),(i 0),(i 0),(i 24)]]) [[(i 0),(i 1),(i 0),(i 24)]]) [[(i 0),(i (-1)),(i 0),(i 24)]]))&&Nat.ble ((((((t1.ns0+1)+1)+1)+1)+1)*32) room) (sl (Nat.beq (((((t1.ns0+1)+1)+1)+1)+1) (len (app (app (app (app (app t1.eh0 [[(i 1),(i 0),(i 0),(i 24)]]) [[(i (-1)),(i 0),(i 0),(i 24)]]) [[(i 0),(i 1),(i 0),(i 24)]]) [[(i 0),(i (-1)),(i 0),(i 24)]]) [[(i 0),(i 0),(i 1),(i 24)]]))&&Nat.ble (((((((t1.ns0+1)+1)+1)+1)+1)+1)*32) room) (some ((.sl 0 0 ((((((t1.ns0+1)+1)+1)+1)+1)+1) 0),[⟨50,4,(app (app (app (app (app (app t1.eh0 [[(i 1),(i 0),(i 0),(i 24)]]) [[(i (-1)),(i 0),(i 0),(i 24)]]) [[(i 0),(i 1),(i 0),(i 24)]]) [[(i 0),(i (-1)),(i 0),(i 24)]]) [[(i 0),(i 0),(i 1),(i 24)]]) [[(i 0),(i 0),(i (-1)),(i 24)]]),true,false,0⟩])) none) none) none) none) none) none) none)) none)
noncomputable def Ma2 (x:List (List Pln)):List Pln:=P4 (one (r1L tP)) (pb4 x)
noncomputable def Ma3 (x:List (List Pln)):Bool:=okO (one (r1L tP)) (pb4 x)
noncomputable def Jb6:Sum:=ja7 (ia2 (tLs tP)) (fun x=>.guard (Ma3 x) (.ret ((one (r1L tP)).enc (Ma2 x),[])))
theorem Rb2:j6 prog G 88 Jb6:=Da0 (bd b88 kd5) (one (r1L tP)) (o:=pb4) fun x=>w6 (by kernel_rfl)
structure S8 where
 ta2:List (List Pln)
noncomputable def va4:List (Nat×Sum):=[(168,Eb3)]
theorem Xa3:l5 prog G va4:=⟨oc0,trivial⟩
structure H6 where
 ta2:List (List Pln)
 is7:Int
structure o5 where
 is8:Int
noncomputable def Ua2 (p:H6) (s:o5):St:=⟨((eL (tLs tP) p.ta2)::((.fn 168 [])::(ra 5 ((i p.is7)::((i s.is8)::(ra 10 [])))))),[]⟩
noncomputable def C9 {α:Type} (k:o5→α) (e:Nat→α) (z:α) (p:H6) (s:o5):α:=let t1:=(Ia0 (rt tP (gL (tLs tP) p.ta2 s.is8.toNat)));(sl (decide (s.is8 < p.is7)) (sl (inB s.is8 (List.length p.ta2)) (sl (okE tP (gL (tLs tP) p.ta2 s.is8.toNat)) (sl (Ia1 (rt tP (gL (tLs tP) p.ta2 s.is8.toNat))) (sl t1 (e 1) (k ⟨(W (s.is8+1))⟩)) z) z) z) (e 2))
noncomputable def E8 (p:H6) (s:o5):Stp o5:=C9 .next .exit .fail p s
noncomputable def ba1:Lo H6 o5:=⟨En va4,0,ne7,[1,0,1,4,4],[0,1,7,8],.p,[⟨((.s (.c 1 (nL (tLs tP))))::((.s (.o (.fn 168)))::(ru2 5 ((.s (.o (.int .i64)))::((.s (.o (.int .i64)))::(ru2 10 [])))))),[],fun a H=>(⟨(rL (tLs tP) (slT a 0)),(toI (slT a 7))⟩,⟨(toI (slT a 8))⟩)⟩],E8,[(none,fun p s=>⟨[(i s.is8)],[]⟩),(some 0,fun p s=>⟨((eL (tLs tP) p.ta2)::((.fn 168 [])::(ra 5 ((i p.is7)::((i s.is8)::((b (decide (s.is8 < p.is7)))::(ra 9 []))))))),[]⟩)],Ua2⟩
theorem Ua3:ba1.Ok:=Lo.ok [] (by kernel_rfl) .nil rfl (.cons (fun a H=>by kernel_rfl) .nil) fun p s=>(.of @C9 (fun F _ _ _ _ _=>by unfold C9;(repeat' apply o0 (f:=F))<;>rfl) (by kernel_rfl))
structure S9 where
 alt:Nat
 is0:Int
noncomputable def D6 {α:Type} (kk:S9→α) (x:S8):α:=let t1:=(lp (E8 (⟨(rt (tLs tP) x.ta2),(↑(List.length x.ta2):Int)⟩:H6)) (⟨0⟩:o5));(sl ((cnE (tLs tP) x.ta2)&&true) (sl (Nat.beq t1.1 1) (kk ⟨1,t1.2.is8⟩) (sl (Nat.beq t1.1 2) (kk ⟨1,(-1)⟩) (kk ⟨0,0⟩))) (kk ⟨0,0⟩))
noncomputable def ga7 (x:S8):S9:=D6 (fun r=>r) x
noncomputable def ea6 (x:S8) (r:S9):DT (b7×List b8):=(.ite (Nat.beq r.alt 1) (.ret ((i r.is0),[])) .fail)
theorem gb3 {α β:Type} (F:α→β) (kk:S9→α) (x:S8):F (D6 kk x)=D6 (fun r=>F (kk r)) x:=by unfold D6;(repeat' apply o0 (f:=F))<;>rfl
noncomputable def ya5:Sum:=ab8 ⟨[(.s (.c 1 (nL (tLs tP)))),(.s (.o (.fn 168)))],[],fun a H=>(⟨(rL (tLs tP) (slT a 0))⟩,())⟩ (fun x=>ea6 x (ga7 x))
theorem cb8:j6 prog G 207 ya5:=S1 (enc:=fun x=>⟨[(eL (tLs tP) x.ta2),(.fn 168 [])],[]⟩) (fun a H=>by kernel_rfl) (bd Pe5 Xa3) fun x=>Da2 (.s .p (.s (.s .p (.b (.u ba1.ls))) .p)) [ba1.pr] (by kernel_rfl) (.cons Ua3 .nil) (Eq.trans (b:=D6 (fun r=>(ea6 x r).run) x) (by kernel_rfl) (gb3 (fun r=>(ea6 x r).run) (fun r=>r) x).symm)
structure M2 where
 ta2:List (List Pln)
noncomputable def Qa8:List (Nat×Sum):=[(207,ya5)]
theorem Ma4:l5 prog G Qa8:=⟨cb8,trivial⟩
structure M3 where
 alt:Nat
 bs0:Bool
noncomputable def A5 {α:Type} (kk:M3→α) (x:M2):α:=let t1:=(ga7 ⟨(rt (tLs tP) x.ta2)⟩);(sl ((cnE (tLs tP) x.ta2)&&true) (sl (Nat.beq t1.alt 1) (kk ⟨1,(decide (t1.is0≥0))⟩) (kk ⟨0,false⟩)) (kk ⟨0,false⟩))
noncomputable def Z6 (x:M2):M3:=A5 (fun r=>r) x
noncomputable def X3 (x:M2) (r:M3):DT (b7×List b8):=(.ite (Nat.beq r.alt 1) (.ret ((b r.bs0),[])) .fail)
theorem Ua4 {α β:Type} (F:α→β) (kk:M3→α) (x:M2):F (A5 kk x)=A5 (fun r=>F (kk r)) x:=by unfold A5;(repeat' apply o0 (f:=F))<;>rfl
noncomputable def qa6:Sum:=ab8 ⟨[(.s (.c 1 (nL (tLs tP)))),(.s (.o (.fn 168)))],[],fun a H=>(⟨(rL (tLs tP) (slT a 0))⟩,())⟩ (fun x=>X3 x (Z6 x))
theorem Qa9:j6 prog G 157 qa6:=S1 (enc:=fun x=>⟨[(eL (tLs tP) x.ta2),(.fn 168 [])],[]⟩) (fun a H=>by kernel_rfl) (bd Ne2 Ma4) fun x=>w6 (Eq.trans (b:=A5 (fun r=>(X3 x r).run) x) (by kernel_rfl) (Ua4 (fun r=>(X3 x r).run) (fun r=>r) x).symm)
noncomputable def Ic5:List (Nat×Sum):=[(157,qa6)]
theorem zc1:l5 prog G Ic5:=⟨Qa9,trivial⟩
noncomputable def Ia2 (x:List (List Pln)):Option (b7×List b8):=let t1:=(Z6 ⟨(rt (tLs tP) x)⟩);(sl ((cnE (tLs tP) x)&&true) (sl (Nat.beq t1.alt 1) (some ((b (!t1.bs0)),[])) none) none)
noncomputable def ba2 (x:List (List Pln)):Bool:=P4 (one r1B) (Ia2 x)
noncomputable def ba3 (x:List (List Pln)):Bool:=okO (one r1B) (Ia2 x)
noncomputable def xa8:Sum:=ja7 (ia2 (tLs tP)) (fun x=>.guard (ba3 x) (.ret ((one r1B).enc (ba2 x),[])))
theorem Aa6:j6 prog G 87 xa8:=Da0 (bd b87 zc1) (one r1B) (o:=Ia2) fun x=>w6 (by kernel_rfl)
structure ba4 where
 oa2:Int
 oa3:Int
 oa4:Int
 fb0:Int
 f9:Int
 c8:Int
 g7:Int
 d9:Int
noncomputable def pb5:List (Nat×Sum):=[(102,jb4)]
theorem mb0:l5 prog G pb5:=⟨tb5,trivial⟩
structure Q7 where
 bs0:Bool
noncomputable def Q8 {α:Type} (kk:Q7→α) (x:ba4):α:=let t1:=(oa9 (⟨(⟨x.f9,x.c8,x.g7⟩:V3),x.d9⟩:Pln) (⟨x.oa2,x.oa3,x.oa4,x.fb0⟩:Pt));(kk ⟨(decide (t1 > 0))⟩)
noncomputable def pa4 (x:ba4):Q7:=Q8 (fun r=>r) x
noncomputable def na1 (x:ba4) (r:Q7):DT (b7×List b8):=.ret ((b r.bs0),[⟨0,4,[[(i x.f9),(i x.c8),(i x.g7),(i x.d9)]],true,false,0⟩])
theorem ub3 {α β:Type} (F:α→β) (kk:Q7→α) (x:ba4):F (Q8 kk x)=Q8 (fun r=>F (kk r)) x:=by unfold Q8;(repeat' apply o0 (f:=F))<;>rfl
noncomputable def Ia3:Sum:=ab8 ⟨[(.agg [(.o (.int .i64)),(.o (.int .i64)),(.o (.int .i64)),(.o (.int .i64))]),(.s (.o (.ptr 0 0 0 0)))],[⟨0,4,true,(some [[(.o (.int .i64)),(.o (.int .i64)),(.o (.int .i64)),(.o (.int .i64))]])⟩],fun a H=>(⟨(toI (slT (cellsOf (slT a 0)) 0)),(toI (slT (cellsOf (slT a 0)) 1)),(toI (slT (cellsOf (slT a 0)) 2)),(toI (slT (cellsOf (slT a 0)) 3)),(toI (slT (rwT (elT H 0) 0) 0)),(toI (slT (rwT (elT H 0) 0) 1)),(toI (slT (rwT (elT H 0) 0) 2)),(toI (slT (rwT (elT H 0) 0) 3))⟩,())⟩ (fun x=>na1 x (pa4 x))
theorem pb6:j6 prog G 176 Ia3:=S1 (enc:=fun x=>⟨[(.agg [(i x.oa2),(i x.oa3),(i x.oa4),(i x.fb0)]),(.ptr 0 0 0 0)],[⟨0,4,[[(i x.f9),(i x.c8),(i x.g7),(i x.d9)]],true,false,0⟩]⟩) (fun a H=>by kernel_rfl) (bd Oe5 mb0) fun x=>w6 (Eq.trans (b:=Q8 (fun r=>(na1 x r).run) x) (by kernel_rfl) (ub3 (fun r=>(na1 x r).run) (fun r=>r) x).symm)
structure V9 where
 B8:List Pt
 f9:Int
 c8:Int
 g7:Int
 d9:Int
noncomputable def ya6:List (Nat×Sum):=[(176,Ia3)]
theorem cb9:l5 prog G ya6:=⟨pb6,trivial⟩
structure J1 where
 B8:List Pt
 is7:Int
 f9:Int
 c8:Int
 g7:Int
 d9:Int
structure p6 where
 is8:Int
noncomputable def Xa4 (p:J1) (s:p6):St:=⟨((eL tX p.B8)::((.fn 176 [(.ptr 0 0 0 0)])::(ra 5 ((i p.is7)::((i s.is8)::(ra 10 [])))))),[⟨0,4,[[(i p.f9),(i p.c8),(i p.g7),(i p.d9)]],true,false,0⟩]⟩
noncomputable def E9 {α:Type} (k:p6→α) (e:Nat→α) (z:α) (p:J1) (s:p6):α:=let t1:=(pa4 ⟨(gL tX p.B8 s.is8.toNat).px,(gL tX p.B8 s.is8.toNat).py,(gL tX p.B8 s.is8.toNat).pz,(gL tX p.B8 s.is8.toNat).pw,p.f9,p.c8,p.g7,p.d9⟩);(sl (decide (s.is8 < p.is7)) (sl (inB s.is8 (List.length p.B8)) (sl t1.bs0 (e 1) (k ⟨(W (s.is8+1))⟩)) z) (e 2))
noncomputable def H7 (p:J1) (s:p6):Stp p6:=E9 .next .exit .fail p s
noncomputable def ea7:Lo J1 p6:=⟨En ya6,1,Sd7,[1,0,1,4,4],[0,1,7,8],.p,[⟨((.s (.c 4 (nL tX)))::((.fn 176 [(.o (.ptr 0 0 0 0))])::(ru2 5 ((.s (.o (.int .i64)))::((.s (.o (.int .i64)))::(ru2 10 [])))))),[⟨0,4,true,(some [[(.o (.int .i64)),(.o (.int .i64)),(.o (.int .i64)),(.o (.int .i64))]])⟩],fun a H=>(⟨(rL tX (slT a 0)),(toI (slT a 7)),(toI (slT (rwT (elT H 0) 0) 0)),(toI (slT (rwT (elT H 0) 0) 1)),(toI (slT (rwT (elT H 0) 0) 2)),(toI (slT (rwT (elT H 0) 0) 3))⟩,⟨(toI (slT a 8))⟩)⟩],H7,[(none,fun p s=>⟨[(i s.is8)],[⟨0,4,[[(i p.f9),(i p.c8),(i p.g7),(i p.d9)]],true,false,0⟩]⟩),(some 0,fun p s=>⟨((eL tX p.B8)::((.fn 176 [(.ptr 0 0 0 0)])::(ra 5 ((i p.is7)::((i s.is8)::((b (decide (s.is8 < p.is7)))::(ra 9 []))))))),[⟨0,4,[[(i p.f9),(i p.c8),(i p.g7),(i p.d9)]],true,false,0⟩]⟩)],Xa4⟩
theorem Xa5:ea7.Ok:=Lo.ok [] (by kernel_rfl) .nil rfl (.cons (fun a H=>by kernel_rfl) .nil) fun p s=>(.of @E9 (fun F _ _ _ _ _=>by unfold E9;(repeat' apply o0 (f:=F))<;>rfl) (by kernel_rfl))
structure W0 where
 alt:Nat
 is0:Int
noncomputable def G4 {α:Type} (kk:W0→α) (x:V9):α:=let t1:=(lp (H7 (⟨(rt tX x.B8),(↑(List.length x.B8):Int),x.f9,x.c8,x.g7,x.d9⟩:J1)) (⟨0⟩:p6));(sl ((cnE tX x.B8)&&true) (sl (Nat.beq t1.1 1) (kk ⟨1,t1.2.is8⟩) (sl (Nat.beq t1.1 2) (kk ⟨1,(-1)⟩) (kk ⟨0,0⟩))) (kk ⟨0,0⟩))
noncomputable def ja9 (x:V9):W0:=G4 (fun r=>r) x
noncomputable def ga8 (x:V9) (r:W0):DT (b7×List b8):=(.ite (Nat.beq r.alt 1) (.ret ((i r.is0),[⟨0,4,[[(i x.f9),(i x.c8),(i x.g7),(i x.d9)]],true,false,0⟩])) .fail)
theorem mb1 {α β:Type} (F:α→β) (kk:W0→α) (x:V9):F (G4 kk x)=G4 (fun r=>F (kk r)) x:=by unfold G4;(repeat' apply o0 (f:=F))<;>rfl
noncomputable def Aa7:Sum:=ab8 ⟨[(.s (.c 4 (nL tX))),(.fn 176 [(.o (.ptr 0 0 0 0))])],[⟨0,4,true,(some [[(.o (.int .i64)),(.o (.int .i64)),(.o (.int .i64)),(.o (.int .i64))]])⟩],fun a H=>(⟨(rL tX (slT a 0)),(toI (slT (rwT (elT H 0) 0) 0)),(toI (slT (rwT (elT H 0) 0) 1)),(toI (slT (rwT (elT H 0) 0) 2)),(toI (slT (rwT (elT H 0) 0) 3))⟩,())⟩ (fun x=>ga8 x (ja9 x))
theorem gb4:j6 prog G 185 Aa7:=S1 (enc:=fun x=>⟨[(eL tX x.B8),(.fn 176 [(.ptr 0 0 0 0)])],[⟨0,4,[[(i x.f9),(i x.c8),(i x.g7),(i x.d9)]],true,false,0⟩]⟩) (fun a H=>by kernel_rfl) (bd Ee5 cb9) fun x=>Da2 (.s .p (.s (.s .p (.b (.u ea7.ls))) .p)) [ea7.pr] (by kernel_rfl) (.cons Xa5 .nil) (Eq.trans (b:=G4 (fun r=>(ga8 x r).run) x) (by kernel_rfl) (mb1 (fun r=>(ga8 x r).run) (fun r=>r) x).symm)
structure N9 where
 B8:List Pt
 f9:Int
 c8:Int
 g7:Int
 d9:Int
noncomputable def Ua5:List (Nat×Sum):=[(185,Aa7)]
theorem Ra0:l5 prog G Ua5:=⟨gb4,trivial⟩
structure O0 where
 alt:Nat
 bs0:Bool
noncomputable def B5 {α:Type} (kk:O0→α) (x:N9):α:=let t1:=(ja9 ⟨(rt tX x.B8),x.f9,x.c8,x.g7,x.d9⟩);(sl ((cnE tX x.B8)&&true) (sl (Nat.beq t1.alt 1) (kk ⟨1,(decide (t1.is0≥0))⟩) (kk ⟨0,false⟩)) (kk ⟨0,false⟩))
noncomputable def ba5 (x:N9):O0:=B5 (fun r=>r) x
noncomputable def Z7 (x:N9) (r:O0):DT (b7×List b8):=(.ite (Nat.beq r.alt 1) (.ret ((b r.bs0),[⟨0,4,[[(i x.f9),(i x.c8),(i x.g7),(i x.d9)]],true,false,0⟩])) .fail)
theorem Xa6 {α β:Type} (F:α→β) (kk:O0→α) (x:N9):F (B5 kk x)=B5 (fun r=>F (kk r)) x:=by unfold B5;(repeat' apply o0 (f:=F))<;>rfl
noncomputable def ta5:Sum:=ab8 ⟨[(.s (.c 4 (nL tX))),(.fn 176 [(.o (.ptr 0 0 0 0))])],[⟨0,4,true,(some [[(.o (.int .i64)),(.o (.int .i64)),(.o (.int .i64)),(.o (.int .i64))]])⟩],fun a H=>(⟨(rL tX (slT a 0)),(toI (slT (rwT (elT H 0) 0) 0)),(toI (slT (rwT (elT H 0) 0) 1)),(toI (slT (rwT (elT H 0) 0) 2)),(toI (slT (rwT (elT H 0) 0) 3))⟩,())⟩ (fun x=>Z7 x (ba5 x))
theorem Ua6:j6 prog G 113 ta5:=S1 (enc:=fun x=>⟨[(eL tX x.B8),(.fn 176 [(.ptr 0 0 0 0)])],[⟨0,4,[[(i x.f9),(i x.c8),(i x.g7),(i x.d9)]],true,false,0⟩]⟩) (fun a H=>by kernel_rfl) (bd Ee4 Ra0) fun x=>w6 (Eq.trans (b:=B5 (fun r=>(Z7 x r).run) x) (by kernel_rfl) (Xa6 (fun r=>(Z7 x r).run) (fun r=>r) x).symm)
structure ia9 where
 oa2:Int
 oa3:Int
 oa4:Int
 fb0:Int
 j7:List Pt
noncomputable def xb9:List (Nat×Sum):=[(113,ta5)]
theorem ub4:l5 prog G xb9:=⟨Ua6,trivial⟩
structure X4 where
 alt:Nat
 bs0:Bool
noncomputable def N7 {α:Type} (kk:X4→α) (x:ia9):α:=let t1:=(ba5 ⟨(rt tX x.j7),x.oa2,x.oa3,x.oa4,x.fb0⟩);(sl ((cnE tX x.j7)&&true) (sl (Nat.beq t1.alt 1) (kk ⟨1,(!t1.bs0)⟩) (kk ⟨0,false⟩)) (kk ⟨0,false⟩))
noncomputable def ja0 (x:ia9):X4:=N7 (fun r=>r) x
noncomputable def ta0 (x:ia9) (r:X4):DT (b7×List b8):=(.ite (Nat.beq r.alt 1) (.ret ((b r.bs0),[⟨0,1,[[(eL tX x.j7)]],true,false,0⟩])) .fail)
theorem Eb5 {α β:Type} (F:α→β) (kk:X4→α) (x:ia9):F (N7 kk x)=N7 (fun r=>F (kk r)) x:=by unfold N7;(repeat' apply o0 (f:=F))<;>rfl
noncomputable def Ra1:Sum:=ab8 ⟨[(.agg [(.o (.int .i64)),(.o (.int .i64)),(.o (.int .i64)),(.o (.int .i64))]),(.s (.o (.ptr 0 0 0 0)))],[⟨0,1,true,(some [[(.c 4 (nL tX))]])⟩],fun a H=>(⟨(toI (slT (cellsOf (slT a 0)) 0)),(toI (slT (cellsOf (slT a 0)) 1)),(toI (slT (cellsOf (slT a 0)) 2)),(toI (slT (cellsOf (slT a 0)) 3)),(rL tX (slT (rwT (elT H 0) 0) 0))⟩,())⟩ (fun x=>ta0 x (ja0 x))
theorem yb0:j6 prog G 175 Ra1:=S1 (enc:=fun x=>⟨[(.agg [(i x.oa2),(i x.oa3),(i x.oa4),(i x.fb0)]),(.ptr 0 0 0 0)],[⟨0,1,[[(eL tX x.j7)]],true,false,0⟩]⟩) (fun a H=>by kernel_rfl) (bd Oe4 ub4) fun x=>w6 (Eq.trans (b:=N7 (fun r=>(ta0 x r).run) x) (by kernel_rfl) (Eb5 (fun r=>(ta0 x r).run) (fun r=>r) x).symm)
structure T0 where
 c9:List Pln
 j7:List Pt
noncomputable def va5:List (Nat×Sum):=[(175,Ra1)]
theorem Xa7:l5 prog G va5:=⟨yb0,trivial⟩
structure H8 where
 c9:List Pln
 is7:Int
structure o6 where
 is8:Int
 j7:List Pt
noncomputable def Ua7 (p:H8) (s:o6):St:=⟨((eL tP p.c9)::((.fn 175 [(.ptr 0 0 0 0)])::(ra 5 ((i p.is7)::((i s.is8)::(ra 10 [])))))),[⟨0,1,[[(eL tX s.j7)]],true,false,0⟩]⟩
noncomputable def D0 {α:Type} (k:o6→α) (e:Nat→α) (z:α) (p:H8) (s:o6):α:=let t1:=(ja0 ⟨(gL tP p.c9 s.is8.toNat).n.x,(gL tP p.c9 s.is8.toNat).n.y,(gL tP p.c9 s.is8.toNat).n.z,(gL tP p.c9 s.is8.toNat).b,(rt tX s.j7)⟩);(sl (decide (s.is8 < p.is7)) (sl (inB s.is8 (List.length p.c9)) (sl ((cnE tX s.j7)&&true) (sl (Nat.beq t1.alt 1) (sl t1.bs0 (e 1) (k ⟨(W (s.is8+1)),(rt tX s.j7)⟩)) z) z) z) (e 2))
noncomputable def F4 (p:H8) (s:o6):Stp o6:=D0 .next .exit .fail p s
noncomputable def ba6:Lo H8 o6:=⟨En va5,1,oe0,[1,0,1,4,4],[0,1,7,8],.p,[⟨((.s (.c 4 (nL tP)))::((.fn 175 [(.o (.ptr 0 0 0 0))])::(ru2 5 ((.s (.o (.int .i64)))::((.s (.o (.int .i64)))::(ru2 10 [])))))),[⟨0,1,true,(some [[(.c 4 (nL tX))]])⟩],fun a H=>(⟨(rL tP (slT a 0)),(toI (slT a 7))⟩,⟨(toI (slT a 8)),(rL tX (slT (rwT (elT H 0) 0) 0))⟩)⟩],F4,[(none,fun p s=>⟨[(i s.is8)],[⟨0,1,[[(eL tX (rt tX s.j7))]],true,false,0⟩]⟩),(some 0,fun p s=>⟨((eL tP p.c9)::((.fn 175 [(.ptr 0 0 0 0)])::(ra 5 ((i p.is7)::((i s.is8)::((b (decide (s.is8 < p.is7)))::(ra 9 []))))))),[⟨0,1,[[(eL tX s.j7)]],true,false,0⟩]⟩)],Ua7⟩
theorem Ua8:ba6.Ok:=Lo.ok [] (by kernel_rfl) .nil rfl (.cons (fun a H=>by kernel_rfl) .nil) fun p s=>(.of @D0 (fun F _ _ _ _ _=>by unfold D0;(repeat' apply o0 (f:=F))<;>rfl) (by kernel_rfl))
structure T1 where
 alt:Nat
 is0:Int
 j7:List Pt
noncomputable def D7 {α:Type} (kk:T1→α) (x:T0):α:=let t1:=(lp (F4 (⟨(rt tP x.c9),(↑(List.length x.c9):Int)⟩:H8)) (⟨0,(rt tX x.j7)⟩:o6));(sl ((cnE tP x.c9)&&((cnE tX x.j7)&&true)) (sl (Nat.beq t1.1 1) (kk ⟨1,t1.2.is8,(rt tX t1.2.j7)⟩) (sl (Nat.beq t1.1 2) (kk ⟨1,(-1),t1.2.j7⟩) (kk ⟨0,0,[]⟩))) (kk ⟨0,0,[]⟩))
noncomputable def ga9 (x:T0):T1:=D7 (fun r=>r) x
noncomputable def ea8 (x:T0) (r:T1):DT (b7×List b8):=(.ite (Nat.beq r.alt 1) (.ret ((i r.is0),[⟨0,1,[[(eL tX r.j7)]],true,false,0⟩])) .fail)
theorem gb5 {α β:Type} (F:α→β) (kk:T1→α) (x:T0):F (D7 kk x)=D7 (fun r=>F (kk r)) x:=by unfold D7;(repeat' apply o0 (f:=F))<;>rfl
noncomputable def ya7:Sum:=ab8 ⟨[(.s (.c 4 (nL tP))),(.fn 175 [(.o (.ptr 0 0 0 0))])],[⟨0,1,true,(some [[(.c 4 (nL tX))]])⟩],fun a H=>(⟨(rL tP (slT a 0)),(rL tX (slT (rwT (elT H 0) 0) 0))⟩,())⟩ (fun x=>ea8 x (ga9 x))
theorem db0:j6 prog G 221 ya7:=S1 (enc:=fun x=>⟨[(eL tP x.c9),(.fn 175 [(.ptr 0 0 0 0)])],[⟨0,1,[[(eL tX x.j7)]],true,false,0⟩]⟩) (fun a H=>by kernel_rfl) (bd Qe2 Xa7) fun x=>Da2 (.s .p (.s (.s .p (.b (.u ba6.ls))) .p)) [ba6.pr] (by kernel_rfl) (.cons Ua8 .nil) (Eq.trans (b:=D7 (fun r=>(ea8 x r).run) x) (by kernel_rfl) (gb5 (fun r=>(ea8 x r).run) (fun r=>r) x).symm)
structure M4 where
 c9:List Pln
 j7:List Pt
noncomputable def Ra2:List (Nat×Sum):=[(221,ya7)]
theorem Ma5:l5 prog G Ra2:=⟨db0,trivial⟩
structure M5 where
 alt:Nat
 bs0:Bool
 j7:List Pt
noncomputable def A6 {α:Type} (kk:M5→α) (x:M4):α:=let t1:=(ga9 ⟨(rt tP x.c9),(rt tX x.j7)⟩);(sl ((cnE tP x.c9)&&((cnE tX x.j7)&&true)) (sl (Nat.beq t1.alt 1) (kk ⟨1,(decide (t1.is0≥0)),t1.j7⟩) (kk ⟨0,false,[]⟩)) (kk ⟨0,false,[]⟩))
noncomputable def Z8 (x:M4):M5:=A6 (fun r=>r) x
noncomputable def X5 (x:M4) (r:M5):DT (b7×List b8):=(.ite (Nat.beq r.alt 1) (.ret ((b r.bs0),[⟨0,1,[[(eL tX r.j7)]],true,false,0⟩])) .fail)
theorem Ua9 {α β:Type} (F:α→β) (kk:M5→α) (x:M4):F (A6 kk x)=A6 (fun r=>F (kk r)) x:=by unfold A6;(repeat' apply o0 (f:=F))<;>rfl
noncomputable def qa7:Sum:=ab8 ⟨[(.s (.c 4 (nL tP))),(.fn 175 [(.o (.ptr 0 0 0 0))])],[⟨0,1,true,(some [[(.c 4 (nL tX))]])⟩],fun a H=>(⟨(rL tP (slT a 0)),(rL tX (slT (rwT (elT H 0) 0) 0))⟩,())⟩ (fun x=>X5 x (Z8 x))
theorem Ra3:j6 prog G 174 qa7:=S1 (enc:=fun x=>⟨[(eL tP x.c9),(.fn 175 [(.ptr 0 0 0 0)])],[⟨0,1,[[(eL tX x.j7)]],true,false,0⟩]⟩) (fun a H=>by kernel_rfl) (bd Oe3 Ma5) fun x=>w6 (Eq.trans (b:=A6 (fun r=>(X5 x r).run) x) (by kernel_rfl) (Ua9 (fun r=>(X5 x r).run) (fun r=>r) x).symm)
noncomputable def Lb0:List (Nat×Sum):=[(89,sa9),(174,qa7)]
theorem Eb6:l5 prog G Lb0:=⟨Ha2,Ra3,trivial⟩
noncomputable def ea9 (x:List Pln):Option (b7×List b8):=let t1:=(U2 (rt tP x));let t2:=(Z8 ⟨(rt tP x),(rt tX t1)⟩);(sl (okE tP x) (sl (U3 (rt tP x)) (sl ((cnE tP x)&&((cnE tX t1)&&true)) (sl (Nat.beq t2.alt 1) (some ((b (!t2.bs0)),[])) none) none) none) none)
noncomputable def fa0 (x:List Pln):Bool:=P4 (one r1B) (ea9 x)
noncomputable def fa1 (x:List Pln):Bool:=okO (one r1B) (ea9 x)
noncomputable def Da5:Sum:=ja7 (ia2 tP) (fun x=>.guard (fa1 x) (.ret ((one r1B).enc (fa0 x),[])))
theorem Wa2:j6 prog G 92 Da5:=Da0 (bd b92 Eb6) (one r1B) (o:=ea9) fun x=>w6 (by kernel_rfl)
noncomputable def zc2:List (Nat×Sum):=[(87,xa8),(88,Jb6),(89,sa9)]
theorem oc1:l5 prog G zc2:=⟨Aa6,Rb2,Ha2,trivial⟩
noncomputable def Aa8 (x:List Pln):Option (b7×List b8):=let t1:=(ba2 [(rt tP x)]);let t2:=(Ma2 [(rt tP x)]);let t3:=(U2 (rt tP t2));(sl ((okE tP x)&&true) (sl (ba3 [(rt tP x)]) (sl (!t1) (some ((.v (.slice none 0 0)),[])) (sl ((okE tP x)&&true) (sl (Ma3 [(rt tP x)]) (sl (okE tP t2) (sl (U3 (rt tP t2)) (some ((eL tX t3),[])) none) none) none) none)) none) none)
noncomputable def W4 (x:List Pln):List Pt:=P4 (one (r1L tX)) (Aa8 x)
noncomputable def J5 (x:List Pln):Bool:=okO (one (r1L tX)) (Aa8 x)
noncomputable def sa2:Sum:=ja7 (ia2 tP) (fun x=>.guard (J5 x) (.ret ((one (r1L tX)).enc (W4 x),[])))
theorem va6:j6 prog G 18 sa2:=Da0 (bd b18 oc1) (one (r1L tX)) (o:=Aa8) fun x=>w6 (by kernel_rfl)
noncomputable def Xc0:List (Nat×Sum):=[(87,xa8),(88,Jb6),(92,Da5)]
theorem Ic6:l5 prog G Xc0:=⟨Aa6,Rb2,Wa2,trivial⟩
noncomputable def Ra4 (x:List Pln):Option (b7×List b8):=let t1:=(ba2 [(rt tP x)]);let t2:=(Ma2 [(rt tP x)]);let t3:=(fa0 (rt tP t2));(sl ((okE tP x)&&true) (sl (ba3 [(rt tP x)]) (sl t1 (sl ((okE tP x)&&true) (sl (Ma3 [(rt tP x)]) (sl (okE tP t2) (sl (fa1 (rt tP t2)) (some ((b t3),[])) none) none) none) none) (some ((b false),[]))) none) none)
noncomputable def R9 (x:List Pln):Bool:=P4 (one r1B) (Ra4 x)
noncomputable def G8 (x:List Pln):Bool:=okO (one r1B) (Ra4 x)
noncomputable def Fa0:Sum:=ja7 (ia2 tP) (fun x=>.guard (G8 x) (.ret ((one r1B).enc (R9 x),[])))
theorem Ia4:j6 prog G 20 Fa0:=Da0 (bd b20 Ic6) (one r1B) (o:=Ra4) fun x=>w6 (by kernel_rfl)
noncomputable def Ic7:List (Nat×Sum):=[]
theorem zc3:l5 prog G Ic7:=trivial
noncomputable def Ia5 (x:Int) (y:Int):Option (b7×List b8):=(sl (y==0) none (sl (y==0) none (sl (decide ((Int.tmod x y) < 0)) (some ((i (W ((W (Int.tdiv x y)) - 1))),[])) (some ((i (W (Int.tdiv x y))),[])))))
noncomputable def ba7 (x:Int) (y:Int):Int:=P4 (one r1I) (Ia5 x y)
noncomputable def ba8 (x:Int) (y:Int):Bool:=okO (one r1I) (Ia5 x y)
noncomputable def Yb1:Sum:=la2 cI cI (fun x y=>.guard (ba8 x y) (.ret ((one r1I).enc (ba7 x y),[])))
theorem Ic8:j6 prog G 95 Yb1:=nb9 (bd b95 zc3) (one r1I) (o:=Ia5) fun x y=>w6 (by kernel_rfl)
noncomputable def Nb6:List (Nat×Sum):=[(20,Fa0),(94,tb4),(18,sa2),(95,Yb1)]
theorem zc4:l5 prog G Nb6:=⟨Ia4,Nb2,va6,Ic8,trivial⟩
structure va7 where
 V1:List Pt
 le5:Int
structure X6 where
 fa9:Int
 da0:Int
 da1:Int
 da2:Int
 Kb2:Int
 Kb3:Int
 Kb4:Int
noncomputable def oc2 (p:va7) (s:X6):St:=⟨(.unk::(.unk::((.ptr 0 0 0 0)::((.ptr 1 0 0 0)::(.unk::((.ptr 2 0 0 0)::((.ptr 3 0 0 0)::(ra 11 ((eL tX p.V1)::((i p.le5)::((i s.fa9)::(ra 62 [])))))))))))),[⟨0,3,[[(i 0),(i 0),(i 0)]],true,false,0⟩,⟨0,3,[[(i 0),(i 0),(i 0)]],true,false,0⟩,⟨0,3,[[(i s.da0),(i s.da1),(i s.da2)]],true,false,0⟩,⟨0,3,[[(i s.Kb2),(i s.Kb3),(i s.Kb4)]],true,false,0⟩]⟩
noncomputable def na2 {α:Type} (k:X6→α) (e:Nat→α) (z:α) (p:va7) (s:X6):α:=let t1:=(ba7 (gL tX p.V1 s.fa9.toNat).px (gL tX p.V1 s.fa9.toNat).pw);let t2:=(ba7 (gL tX p.V1 s.fa9.toNat).py (gL tX p.V1 s.fa9.toNat).pw);let t3:=(ba7 (gL tX p.V1 s.fa9.toNat).pz (gL tX p.V1 s.fa9.toNat).pw);let t4:=(ba7 (W (0 - (gL tX p.V1 s.fa9.toNat).px)) (gL tX p.V1 s.fa9.toNat).pw);let t5:=(ba7 (W (0 - (gL tX p.V1 s.fa9.toNat).py)) (gL tX p.V1 s.fa9.toNat).pw);let t6:=(ba7 (W (0 - (gL tX p.V1 s.fa9.toNat).pz)) (gL tX p.V1 s.fa9.toNat).pw);(sl (decide (s.fa9 < p.le5)) (sl (inB s.fa9 (List.length p.V1)) (sl (ba8 (gL tX p.V1 s.fa9.toNat).px (gL tX p.V1 s.fa9.toNat).pw) (sl (ba8 (gL tX p.V1 s.fa9.toNat).py (gL tX p.V1 s.fa9.toNat).pw) (sl (ba8 (gL tX p.V1 s.fa9.toNat).pz (gL tX p.V1 s.fa9.toNat).pw) (sl (ba8 (W (0 - (gL tX p.V1 s.fa9.toNat).px)) (gL tX p.V1 s.fa9.toNat).pw) (sl (ba8 (W (0 - (gL tX p.V1 s.fa9.toNat).py)) (gL tX p.V1 s.fa9.toNat).pw) (sl (ba8 (W (0 - (gL tX p.V1 s.fa9.toNat).pz)) (gL tX p.V1 s.fa9.toNat).pw) (k ⟨(W (s.fa9+1)),(if t1 < s.da0 then t1 else s.da0),(if t2 < s.da1 then t2 else s.da1),(if t3 < s.da2 then t3 else s.da2),(if (W (0 - t4)) > s.Kb2 then (W (0 - t4)) else s.Kb2),(if (W (0 - t5)) > s.Kb3 then (W (0 - t5)) else s.Kb3),(if (W (0 - t6)) > s.Kb4 then (W (0 - t6)) else s.Kb4)⟩) z) z) z) z) z) z) z) (e 1))
noncomputable def ha7 (p:va7) (s:X6):Stp X6:=na2 .next .exit .fail p s
noncomputable def db1:Lo va7 X6:=⟨En Nb6,0,Ae8,[1,1,1,1,0,1,4,4],[2,3,5,6,18,19,20],.p,[⟨((.s (.o .unk))::((.s (.o .unk))::((.s (.o (.ptr 0 0 0 0)))::((.s (.o (.ptr 1 0 0 0)))::((.s (.o .unk))::((.s (.o (.ptr 2 0 0 0)))::((.s (.o (.ptr 3 0 0 0)))::(ru2 11 ((.s (.c 4 (nL tX)))::((.s (.o (.int .i64)))::((.s (.o (.int .i64)))::(ru2 62 [])))))))))))),[⟨0,3,true,(some [[(.o (.lit .i64 0)),(.o (.lit .i64 0)),(.o (.lit .i64 0))]])⟩,⟨0,3,true,(some [[(.o (.lit .i64 0)),(.o (.lit .i64 0)),(.o (.lit .i64 0))]])⟩,⟨0,3,true,(some [[(.o (.int .i64)),(.o (.int .i64)),(.o (.int .i64))]])⟩,⟨0,3,true,(some [[(.o (.int .i64)),(.o (.int .i64)),(.o (.int .i64))]])⟩],fun a H=>(⟨(rL tX (slT a 18)),(toI (slT a 19))⟩,⟨(toI (slT a 20)),(toI (slT (rwT (elT H 2) 0) 0)),(toI (slT (rwT (elT H 2) 0) 1)),(toI (slT (rwT (elT H 2) 0) 2)),(toI (slT (rwT (elT H 3) 0) 0)),(toI (slT (rwT (elT H 3) 0) 1)),(toI (slT (rwT (elT H 3) 0) 2))⟩)⟩],ha7,[(some 0,fun p s=>⟨(.unk::(.unk::((.ptr 0 0 0 0)::((.ptr 1 0 0 0)::(.unk::((.ptr 2 0 0 0)::((.ptr 3 0 0 0)::(ra 11 ((eL tX p.V1)::((i p.le5)::((i s.fa9)::((b (decide (s.fa9 < p.le5)))::(ra 61 []))))))))))))),[⟨0,3,[[(i 0),(i 0),(i 0)]],true,false,0⟩,⟨0,3,[[(i 0),(i 0),(i 0)]],true,false,0⟩,⟨0,3,[[(i s.da0),(i s.da1),(i s.da2)]],true,false,0⟩,⟨0,3,[[(i s.Kb2),(i s.Kb3),(i s.Kb4)]],true,false,0⟩]⟩)],oc2⟩
theorem oc3:db1.Ok:=Lo.ok [] (by kernel_rfl) .nil rfl (.cons (fun a H=>by kernel_rfl) .nil) fun p s=>(.of @na2 (fun F _ _ _ _ _=>by unfold na2;(repeat' apply o0 (f:=F))<;>rfl) (by kernel_rfl))
noncomputable def Ia6 (x:List Pln):Option (b7×List b8):=let t1:=(R9 (rt tP x));let t2:=(Q6 (⟨24,24,24⟩:V3) (-1));let t3:=(W4 (rt tP x));let t4:=(lp (ha7 (⟨(rt tX t3),(↑(List.length t3):Int)⟩:va7)) (⟨0,24,24,24,t2.x,t2.y,t2.z⟩:X6));(sl (okE tP x) (sl (G8 (rt tP x)) (sl (!t1) (some ((.tup [(.agg [(i 0),(i 0),(i 0)]),(.agg [(i 0),(i 0),(i 0)]),(b false)]),[])) (sl (okE tP x) (sl (J5 (rt tP x)) (sl ((cnE tX t3)&&true) (sl (Nat.beq t4.1 1) (some ((.tup [(.agg [(i t4.2.da0),(i t4.2.da1),(i t4.2.da2)]),(.agg [(i t4.2.Kb2),(i t4.2.Kb3),(i t4.2.Kb4)]),(b true)]),[])) none) none) none) none)) none) none)
noncomputable def Xa8 (x:List Pln):V3×V3×Bool:=P4 (fd7 r1V r1V r1B) (Ia6 x)
noncomputable def Xa9 (x:List Pln):Bool:=okO (fd7 r1V r1V r1B) (Ia6 x)
noncomputable def Yb2:Sum:=ja7 (ia2 tP) (fun x=>.guard (Xa9 x) (.ret ((fd7 r1V r1V r1B).enc (Xa8 x),[])))
theorem Ic9:j6 prog G 22 Yb2:=Da0 (bd b22 zc4) (fd7 r1V r1V r1B) (o:=Ia6) fun x=>Da2 (.s .p (.s .p (.s .p (.s .p (.s (.s .p (.b (.u db1.ls))) .p))))) [db1.pr] (by kernel_rfl) (.cons oc3 .nil) (by kernel_rfl)
end Go.Ev.Ce
end
