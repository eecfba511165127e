/- Own work: a part of the proof. -/
import Derived.Test.YtlccibobknidjaaGreatEvBd
import Derived.Test.YtlccibobknidjaaGreatChecked
import Derived.Test.YtlccibobknidjaaGreatEvCePf
import Derived.KernelRfl
import Derived.Test.YtlccibobknidjaaGreatEvSp3
import Derived.Test.YtlccibobknidjaaGreatEvMem
import Derived.Shelf.Spec.SlicesGrow
set_option linter.unusedVariables false
set_option linter.unusedSimpArgs false
set_option linter.unnecessarySimpa false
set_option linter.unusedSectionVars false
section
namespace Go.Ev.Ce
open Go Go.Ev Go.Proofs
set_option maxRecDepth 1000000
theorem mx:(Tryz.prog).follows .mixedOrders=true:=Checked.mixed Tryz.checked
theorem b3:r5 Tryz.prog 3 fun E=>k9 E pf3:=r9 mx Tryz.func3 (by kernel_rfl) (g7 (by kernel_rfl))
theorem b4:r5 Tryz.prog 4 fun E=>k9 E pf4:=r9 mx Tryz.func4 (by kernel_rfl) (g7 (by kernel_rfl))
theorem b5:r5 Tryz.prog 5 fun E=>k9 E pf5:=r9 mx Tryz.func5 (by kernel_rfl) (g7 (by kernel_rfl))
theorem b6:r5 Tryz.prog 6 fun E=>k9 E pf6:=r9 mx Tryz.func6 (by kernel_rfl) (g7 (by kernel_rfl))
theorem b13:r5 Tryz.prog 13 fun E=>k9 E ye9:=r9 mx Tryz.func13 (by kernel_rfl) (g7 (by kernel_rfl))
theorem b14:r5 Tryz.prog 14 fun E=>k9 E ze0:=r9 mx Tryz.func14 (by kernel_rfl) (g7 (by kernel_rfl))
theorem b15:r5 Tryz.prog 15 fun E=>k9 E ze1:=r9 mx Tryz.func15 (by kernel_rfl) (g7 (by kernel_rfl))
theorem b16:r5 Tryz.prog 16 fun E=>k9 E re4:=r9 mx Tryz.func16 (by kernel_rfl) (g7 (by kernel_rfl))
theorem b17:r5 Tryz.prog 17 fun E=>k9 E re5:=r9 mx Tryz.func17 (by kernel_rfl) (g7 (by kernel_rfl))
theorem b18:r5 Tryz.prog 18 fun E=>k9 E ze2:=r9 mx Tryz.func18 (by kernel_rfl) (g7 (by kernel_rfl))
theorem b19:r5 Tryz.prog 19 fun E=>k9 E ze3:=r9 mx Tryz.func19 (by kernel_rfl) (g7 (by kernel_rfl))
theorem b20:r5 Tryz.prog 20 fun E=>k9 E ze4:=r9 mx Tryz.func20 (by kernel_rfl) (g7 (by kernel_rfl))
theorem b21:r5 Tryz.prog 21 fun E=>k9 E ze5:=r9 mx Tryz.func21 (by kernel_rfl) (g7 (by kernel_rfl))
theorem b22:r5 Tryz.prog 22 fun E=>k9 E re6:=r9 mx Tryz.func22 (by kernel_rfl) (g7 (by kernel_rfl))
theorem b25:r5 Tryz.prog 25 fun E=>k9 E ze6:=r9 mx Tryz.func25 (by kernel_rfl) (g7 (by kernel_rfl))
theorem b26:r5 Tryz.prog 26 fun E=>k9 E re7:=r9 mx Tryz.func26 (by kernel_rfl) (g7 (by kernel_rfl))
theorem b28:r5 Tryz.prog 28 fun E=>k9 E ze7:=r9 mx Tryz.func28 (by kernel_rfl) (g7 (by kernel_rfl))
theorem b30:r5 Tryz.prog 30 fun E=>k9 E ze8:=r9 mx Tryz.func30 (by kernel_rfl) (g7 (by kernel_rfl))
theorem b31:r5 Tryz.prog 31 fun E=>k9 E ze9:=r9 mx Tryz.func31 (by kernel_rfl) (g7 (by kernel_rfl))
theorem b32:r5 Tryz.prog 32 fun E=>k9 E Ae0:=r9 mx Tryz.func32 (by kernel_rfl) (g7 (by kernel_rfl))
theorem b33:r5 Tryz.prog 33 fun E=>k9 E Ae1:=r9 mx Tryz.func33 (by kernel_rfl) (g7 (by kernel_rfl))
theorem b34:r5 Tryz.prog 34 fun E=>k9 E re8:=r9 mx Tryz.func34 (by kernel_rfl) (g7 (by kernel_rfl))
theorem b35:r5 Tryz.prog 35 fun E=>k9 E Ae2:=r9 mx Tryz.func35 (by kernel_rfl) (g7 (by kernel_rfl))
theorem b37:r5 Tryz.prog 37 fun E=>k9 E Ae3:=r9 mx Tryz.func37 (by kernel_rfl) (g7 (by kernel_rfl))
theorem b39:r5 Tryz.prog 39 fun E=>k9 E re9:=r9 mx Tryz.func39 (by kernel_rfl) (g7 (by kernel_rfl))
theorem b46:r5 Tryz.prog 46 fun E=>k9 E se0:=r9 mx Tryz.func46 (by kernel_rfl) (g7 (by kernel_rfl))
theorem b47:r5 Tryz.prog 47 fun E=>k9 E Ae4:=r9 mx Tryz.func47 (by kernel_rfl) (g7 (by kernel_rfl))
theorem b54:r5 Tryz.prog 54 fun E=>k9 E Ae5:=r9 mx Tryz.func54 (by kernel_rfl) (g7 (by kernel_rfl))
theorem b81:r5 Tryz.prog 81 fun E=>k9 E Ae6:=r9 mx Tryz.func81 (by kernel_rfl) (g7 (by kernel_rfl))
theorem b82:r5 Tryz.prog 82 fun E=>k9 E Ae7:=r9 mx Tryz.func82 (by kernel_rfl) (g7 (by kernel_rfl))
theorem b83:r5 Tryz.prog 83 fun E=>k9 E Ae8:=r9 mx Tryz.func83 (by kernel_rfl) (g7 (by kernel_rfl))
theorem b84:r5 Tryz.prog 84 fun E=>k9 E Ae9:=r9 mx Tryz.func84 (by kernel_rfl) (g7 (by kernel_rfl))
theorem b85:r5 Tryz.prog 85 fun E=>k9 E Be0:=r9 mx Tryz.func85 (by kernel_rfl) (g7 (by kernel_rfl))
theorem b86:r5 Tryz.prog 86 fun E=>k9 E Be1:=r9 mx Tryz.func86 (by kernel_rfl) (g7 (by kernel_rfl))
theorem b87:r5 Tryz.prog 87 fun E=>k9 E Be2:=r9 mx Tryz.func87 (by kernel_rfl) (g7 (by kernel_rfl))
theorem b88:r5 Tryz.prog 88 fun E=>k9 E Be3:=r9 mx Tryz.func88 (by kernel_rfl) (g7 (by kernel_rfl))
theorem b89:r5 Tryz.prog 89 fun E=>Db0 E Yd5:=fe3 (h:=h89) mx Tryz.func89 (by kernel_rfl) Tryz.func217 (by kernel_rfl) (g7 (by kernel_rfl))
theorem b90:r5 Tryz.prog 90 fun E=>k9 E Yd6:=r9 mx Tryz.func90 (by kernel_rfl) (g7 (by kernel_rfl))
theorem b91:r5 Tryz.prog 91 fun E=>k9 E Be4:=r9 mx Tryz.func91 (by kernel_rfl) (g7 (by kernel_rfl))
theorem b92:r5 Tryz.prog 92 fun E=>k9 E Be5:=r9 mx Tryz.func92 (by kernel_rfl) (g7 (by kernel_rfl))
theorem b93:r5 Tryz.prog 93 fun E=>k9 E le7:=r9 mx Tryz.func93 (by kernel_rfl) (g7 (by kernel_rfl))
theorem b94:r5 Tryz.prog 94 fun E=>k9 E Be6:=r9 mx Tryz.func94 (by kernel_rfl) (g7 (by kernel_rfl))
theorem b95:r5 Tryz.prog 95 fun E=>k9 E Be7:=r9 mx Tryz.func95 (by kernel_rfl) (g7 (by kernel_rfl))
theorem b97:r5 Tryz.prog 97 fun E=>k9 E Be8:=r9 mx Tryz.func97 (by kernel_rfl) (g7 (by kernel_rfl))
theorem b98:r5 Tryz.prog 98 fun E=>k9 E Be9:=r9 mx Tryz.func98 (by kernel_rfl) (g7 (by kernel_rfl))
theorem b99:r5 Tryz.prog 99 fun E=>k9 E se1:=r9 mx Tryz.func99 (by kernel_rfl) (g7 (by kernel_rfl))
theorem Ce0:r5 Tryz.prog 100 fun E=>k9 E se2:=r9 mx Tryz.func100 (by kernel_rfl) (g7 (by kernel_rfl))
theorem Ce1:r5 Tryz.prog 101 fun E=>k9 E fe4:=r9 mx Tryz.func101 (by kernel_rfl) (g7 (by kernel_rfl))
theorem Ce2:r5 Tryz.prog 102 fun E=>k9 E se3:=r9 mx Tryz.func102 (by kernel_rfl) (g7 (by kernel_rfl))
theorem Ce3:r5 Tryz.prog 104 fun E=>k9 E se4:=r9 mx Tryz.func104 (by kernel_rfl) (g7 (by kernel_rfl))
theorem Ce4:r5 Tryz.prog 105 fun E=>k9 E Od8:=r9 mx Tryz.func105 (by kernel_rfl) (g7 (by kernel_rfl))
theorem Ce5:r5 Tryz.prog 107 fun E=>k9 E se5:=r9 mx Tryz.func107 (by kernel_rfl) (g7 (by kernel_rfl))
theorem Ce6:r5 Tryz.prog 108 fun E=>k9 E se6:=r9 mx Tryz.func108 (by kernel_rfl) (g7 (by kernel_rfl))
theorem Ce7:r5 Tryz.prog 109 fun E=>k9 E se7:=r9 mx Tryz.func109 (by kernel_rfl) (g7 (by kernel_rfl))
theorem Ce8:r5 Tryz.prog 110 fun E=>k9 E fe5:=r9 mx Tryz.func110 (by kernel_rfl) (g7 (by kernel_rfl))
theorem ve3:r5 Tryz.prog 111 fun E=>k9 E se8:=r9 mx Tryz.func111 (by kernel_rfl) (g7 (by kernel_rfl))
theorem Ce9:r5 Tryz.prog 112 fun E=>k9 E zd7:=r9 mx Tryz.func112 (by kernel_rfl) (g7 (by kernel_rfl))
theorem ve4:r5 Tryz.prog 113 fun E=>k9 E se9:=r9 mx Tryz.func113 (by kernel_rfl) (g7 (by kernel_rfl))
theorem De0:r5 Tryz.prog 114 fun E=>k9 E te0:=r9 mx Tryz.func114 (by kernel_rfl) (g7 (by kernel_rfl))
theorem De1:r5 Tryz.prog 115 fun E=>k9 E te1:=r9 mx Tryz.func115 (by kernel_rfl) (g7 (by kernel_rfl))
theorem De2:r5 Tryz.prog 118 fun E=>k9 E te2:=r9 mx Tryz.func118 (by kernel_rfl) (g7 (by kernel_rfl))
theorem De3:r5 Tryz.prog 119 fun E=>k9 E te3:=r9 mx Tryz.func119 (by kernel_rfl) (g7 (by kernel_rfl))
theorem De4:r5 Tryz.prog 124 fun E=>k9 E id8:=r9 mx Tryz.func124 (by kernel_rfl) (g7 (by kernel_rfl))
theorem De5:r5 Tryz.prog 126 fun E=>k9 E te4:=r9 mx Tryz.func126 (by kernel_rfl) (g7 (by kernel_rfl))
theorem De6:r5 Tryz.prog 129 fun E=>k9 E te5:=r9 mx Tryz.func129 (by kernel_rfl) (g7 (by kernel_rfl))
theorem De7:r5 Tryz.prog 130 fun E=>k9 E te6:=r9 mx Tryz.func130 (by kernel_rfl) (g7 (by kernel_rfl))
theorem De8:r5 Tryz.prog 142 fun E=>k9 E te7:=r9 mx Tryz.func142 (by kernel_rfl) (g7 (by kernel_rfl))
theorem De9:r5 Tryz.prog 157 fun E=>k9 E te8:=r9 mx Tryz.func157 (by kernel_rfl) (g7 (by kernel_rfl))
theorem le8:r5 Tryz.prog 163 fun E=>k9 E zd8:=r9 mx Tryz.func163 (by kernel_rfl) (g7 (by kernel_rfl))
theorem Ee0:r5 Tryz.prog 164 fun E=>k9 E fe6:=r9 mx Tryz.func164 (by kernel_rfl) (g7 (by kernel_rfl))
theorem Ee1:r5 Tryz.prog 165 fun E=>k9 E Od9:=r9 mx Tryz.func165 (by kernel_rfl) (g7 (by kernel_rfl))
theorem Ee2:r5 Tryz.prog 166 fun E=>k9 E fe7:=r9 mx Tryz.func166 (by kernel_rfl) (g7 (by kernel_rfl))
theorem Ee3:r5 Tryz.prog 167 fun E=>k9 E fe8:=r9 mx Tryz.func167 (by kernel_rfl) (g7 (by kernel_rfl))
theorem Ee4:r5 Tryz.prog 168 fun E=>k9 E te9:=r9 mx Tryz.func168 (by kernel_rfl) (g7 (by kernel_rfl))
theorem Ee5:r5 Tryz.prog 169 fun E=>Db0 E Pd0:=fe3 (h:=re3) mx Tryz.func169 (by kernel_rfl) Tryz.func216 (by kernel_rfl) (g7 (by kernel_rfl))
theorem Ee6:r5 Tryz.prog 170 fun E=>k9 E fe9:=r9 mx Tryz.func170 (by kernel_rfl) (g7 (by kernel_rfl))
theorem Ee7:r5 Tryz.prog 171 fun E=>k9 E ue0:=r9 mx Tryz.func171 (by kernel_rfl) (g7 (by kernel_rfl))
theorem Ee8:r5 Tryz.prog 172 fun E=>k9 E ue1:=r9 mx Tryz.func172 (by kernel_rfl) (g7 (by kernel_rfl))
theorem Ee9:r5 Tryz.prog 173 fun E=>k9 E ge0:=r9 mx Tryz.func173 (by kernel_rfl) (g7 (by kernel_rfl))
theorem Fe0:r5 Tryz.prog 174 fun E=>k9 E ue2:=r9 mx Tryz.func174 (by kernel_rfl) (g7 (by kernel_rfl))
theorem Fe1:r5 Tryz.prog 175 fun E=>k9 E ue3:=r9 mx Tryz.func175 (by kernel_rfl) (g7 (by kernel_rfl))
theorem Fe2:r5 Tryz.prog 176 fun E=>k9 E ue4:=r9 mx Tryz.func176 (by kernel_rfl) (g7 (by kernel_rfl))
theorem Fe3:r5 Tryz.prog 179 fun E=>k9 E ue5:=r9 mx Tryz.func179 (by kernel_rfl) (g7 (by kernel_rfl))
theorem Fe4:r5 Tryz.prog 180 fun E=>k9 E ge1:=r9 mx Tryz.func180 (by kernel_rfl) (g7 (by kernel_rfl))
theorem Fe5:r5 Tryz.prog 181 fun E=>k9 E ue6:=r9 mx Tryz.func181 (by kernel_rfl) (g7 (by kernel_rfl))
theorem Fe6:r5 Tryz.prog 182 fun E=>k9 E ge2:=r9 mx Tryz.func182 (by kernel_rfl) (g7 (by kernel_rfl))
theorem Fe7:r5 Tryz.prog 183 fun E=>k9 E ge3:=r9 mx Tryz.func183 (by kernel_rfl) (g7 (by kernel_rfl))
theorem Fe8:r5 Tryz.prog 184 fun E=>k9 E ge4:=r9 mx Tryz.func184 (by kernel_rfl) (g7 (by kernel_rfl))
theorem ve5:r5 Tryz.prog 185 fun E=>k9 E Pd1:=r9 mx Tryz.func185 (by kernel_rfl) (g7 (by kernel_rfl))
theorem Fe9:r5 Tryz.prog 186 fun E=>k9 E ue7:=r9 mx Tryz.func186 (by kernel_rfl) (g7 (by kernel_rfl))
theorem Ge0:r5 Tryz.prog 187 fun E=>k9 E ue8:=r9 mx Tryz.func187 (by kernel_rfl) (g7 (by kernel_rfl))
theorem Ge1:r5 Tryz.prog 194 fun E=>k9 E ue9:=r9 mx Tryz.func194 (by kernel_rfl) (g7 (by kernel_rfl))
theorem Ge2:r5 Tryz.prog 207 fun E=>k9 E ge5:=r9 mx Tryz.func207 (by kernel_rfl) (g7 (by kernel_rfl))
theorem Ge3:r5 Tryz.prog 214 fun E=>k9 E ve0:=r9 mx Tryz.func214 (by kernel_rfl) (g7 (by kernel_rfl))
theorem Ge4:r5 Tryz.prog 215 fun E=>k9 E ve1:=r9 mx Tryz.func215 (by kernel_rfl) (g7 (by kernel_rfl))
theorem Ge5:r5 Tryz.prog 217 fun E=>k9 E ge6:=r9 mx Tryz.func217 (by kernel_rfl) (g7 (by kernel_rfl))
theorem Ge6:r5 Tryz.prog 218 fun E=>k9 E Pd2:=r9 mx Tryz.func218 (by kernel_rfl) (g7 (by kernel_rfl))
theorem Ge7:r5 Tryz.prog 219 fun E=>k9 E ve2:=r9 mx Tryz.func219 (by kernel_rfl) (g7 (by kernel_rfl))
theorem Ge8:r5 Tryz.prog 220 fun E=>k9 E ge7:=r9 mx Tryz.func220 (by kernel_rfl) (g7 (by kernel_rfl))
theorem Ge9:r5 Tryz.prog 221 fun E=>k9 E ge8:=r9 mx Tryz.func221 (by kernel_rfl) (g7 (by kernel_rfl))
end Go.Ev.Ce
end
namespace Go.Ev.L
open Go Go.Ev
noncomputable def Db4:RT→PC→PS2
 | .s a b,.seq x y=>.seq (Db4 a x) (Db4 b y)
 | .c a b,.cond g x y=>.cond g (Db4 a x) (Db4 b y)
 | .b a,.block id x=>.block id (Db4 a x)
 | .i a,.inner f x n c=>.inner f x n (Db4 a c)
 | .u S,_=>.sum S
 | _,c=>.pc c
theorem Vc6 {E:Env} {k:Nat} (rt:RT) (c:PC):Ga5 (fun x=>∀ s,S9 (x.1 s) (J2 E k x.2 s)) (Lb0 rt c)→da4 E k (Db4 rt c) c:=by
 induction rt generalizing c with
 | p=>intro h;cases c<;>exact .pc _
 | s a b iha ihb =>
  intro h
  cases c with
  | seq x y=>exact .seq (iha x (Ga5.app h).1) (ihb y (Ga5.app h).2)
  | _=>exact .pc _
 | c a b iha ihb =>
  intro h
  cases c with
  | cond g x y=>exact .cond g (iha x (Ga5.app h).1) (ihb y (Ga5.app h).2)
  | _=>exact .pc _
 | b a iha =>
  intro h
  cases c with
  | block id x=>exact .block id (iha x h)
  | _=>exact .pc _
 | l a iha=>intro h;cases c<;>exact .pc _
 | i a iha =>
  intro h
  cases c with
  | inner f x n c=>exact .inner f x n (iha c h)
  | _=>exact .pc _
 | u S =>
  intro h
  have:Lb0 (.u S) c=[(S,c)]:=by cases c<;>rfl
  rw[this] at h
  cases h with
  | cons h t =>
   have e:Db4 (.u S) c=.sum S:=by cases c<;>rfl
   rw[e]
   exact .sum h
section
variable {π σ:Type} {E:Env} {k:Nat} {keep:List Nat} {alts:List (Al2 π σ)} {enc:π→σ→St} {step:π→σ→Stp σ} {xs:Xs π σ} {body:PS2} {c:PC}
theorem Cb2.belowM (hb:da4 E k body c) (hN:E.N=rounds+1) (w:Cb2 id7 k keep (fc1 E k body) alts step xs enc) (s:St):S9 (Oc3 id7 k keep alts step xs s) (J2 E k (.loopM keep c) s):=fun r hr=>by
 obtain⟨t,h1,h2⟩:=w.go hr
 rw[td9,hN]
 exact sb5 hb.le _ _ _ (Ib6 h1 h2)
theorem Cb2.belowML (hb:da4 E k body c) (hN:E.N=rounds+1) (w:Cb2 Bb7 k keep (fc1 E k body) alts step xs enc) (s:St):S9 (Oc3 Bb7 k keep alts step xs s) (J2 E k (.loop keep c) s):=fun r hr=>by
 obtain⟨t,h1,h2⟩:=w.go hr
 rw[Oc2,hN]
 exact sb5 hb.le _ _ _ (Ib6 h1 h2)
end
end Go.Ev.L
namespace Go.Ev.Ab
open Go Go.Ev
@[reducible] def o (d:Nat) (x:PO):PI:=⟨some d,none,[],x⟩
@[reducible] def s (x:PO):PI:=⟨none,none,[],x⟩
@[reducible] def cb (b:Bool):Arg:=.c (.v (.bool b))
@[reducible] def vi (n:Int):b7:=.v (.int .i64 n)
@[reducible] def rep {α:Type} (n:Nat) (x:α):List α:=List.replicate n x
@[reducible] def ki (n:Nat):List CK:=List.replicate n (.int .i64)
@[reducible] def mv (d n:Nat):PI:=o d (.mv (.t n))
@[reducible] def mb (d:Nat) (x:Bool):PI:=o d (.mv (cb x))
@[reducible] def fd (d k n:Nat):PI:=o d (.fld k (.t n))
@[reducible] def lf (d k n:Nat):PI:=o d (.load (ki k) k false (.t n))
@[reducible] def la (d k n:Nat):PI:=o d (.load (ki k) k true (.t n))
@[reducible] def ex (d x k:Nat):PI:=o d (.ext (.t x) k)
@[reducible] def gf (n:Nat) (x:PI):PI:=⟨x.dst,some (n,false),x.hide,x.op⟩
@[reducible] def so (l:List PI) (x:PC):PC:=.seq (.ops l) x
@[reducible] def ts (l:List Nat):List Arg:=l.map .t
@[reducible] def cl (f:Nat) (l:List Nat):PO:=.call f (ts l)
@[reducible] def sT (k a b:Nat):PI:=s (.store k (.t a) (.t b))
@[reducible] def pa (d c x:Nat):PI:=o d (.pick (.t c) (.t x) (cb false))
@[reducible] def po (d c x:Nat):PI:=o d (.pick (.t c) (cb true) (.t x))
@[reducible] def al (d k:Nat) (n:Int):PI:=o d (.alloc (rep k (vi n)))
@[reducible] def ap (d et es n x y:Nat):PI:=o d (.append et es n (.t x) (.t y))
end Go.Ev.Ab
namespace Go.Ev.L
open Go Go.Ev
def Cps {π σ:Type} (u:∀ {α:Type},(σ→α)→(Nat→α)→α→π→σ→α):Prop :=
 ∀ {α β:Type} (F:α→β) (k:σ→α) (e:Nat→α) (z:α) (p:π) (s:σ),F (u k e z p s)=u (fun x=>F (k x)) (fun t=>F (e t)) (F z) p s
@[reducible] noncomputable def foL {π σ:Type} (en:π→σ→St) (xs:Xs π σ) (p:π) (s:σ):Stp σ→Option (d7×St):=Bb8 (fun s'=>some (.normal,en p s')) (fun t=>xOf xs p s t 1) none
structure Lo (π σ:Type) where
 E:Env
 k:Nat
 F:PFn
 at':List Nat
 kp:List Nat
 rt:RT
 al:List (Al2 π σ)
 st:π→σ→Stp σ
 xs:Xs π σ
 en:π→σ→St
namespace Lo
variable {π σ:Type} (L:Lo π σ)
noncomputable def lc:PC:=ye7 L.at' L.F.body
noncomputable def ls:St→DT (d7×St):=Oc3 Bb7 L.k L.kp L.al L.st L.xs
noncomputable def lsM:St→DT (d7×St):=Oc3 id7 L.k L.kp L.al L.st L.xs
noncomputable def pr:(St→DT (d7×St))×PC:=(L.ls,.loop L.kp L.lc)
noncomputable def prM:(St→DT (d7×St))×PC:=(L.lsM,.loopM L.kp L.lc)
def Ok:Prop:=∀ s,Y4 L.k L.F.res (L.pr.1 s) (J2 L.E L.k L.pr.2 s)
def OkE:Prop:=∀ s,S9 (L.pr.1 s) (J2 L.E L.k L.pr.2 s)
def OkM:Prop:=∀ s,S9 (L.prM.1 s) (J2 L.E L.k L.prM.2 s)
def Rd (hd:St→DT St) (bd:St→DT (d7×St)) (p:π) (s:σ) (a:St) (b:Stp σ):Prop:=(sb6 hd bd a).run=foL L.en L.xs p s b
def H0:Prop:=∀ p s,L.Rd (Bb7 L.k L.kp) (yd3 L.E L.k L.F.res (Fc8 L.rt L.lc)) p s (L.en p s) (L.st p s)
def H1:Prop:=∀ p s,L.Rd (Bb7 L.k L.kp) (fc1 L.E L.k (Db4 L.rt L.lc)) p s (L.en p s) (L.st p s)
def H2:Prop:=∀ p s,L.Rd (id7 L.k L.kp) (fc1 L.E L.k (Db4 L.rt L.lc)) p s (L.en p s) (L.st p s)
def HA:Prop:=Ga5 (fun x=>∀ a H,(⟨Fd3 x.sh a,Fd4 x.bl H⟩:St)=L.en (x.rd a H).1 (x.rd a H).2) L.al
variable {L}
theorem Rd.of {hd : St → DT St} {bd : St → DT (d7 × St)} {p : π} {s : σ} {a : St} (u : ∀ {α : Type}, (σ → α) → (Nat → α) → α → π → σ → α)
  (q:Cps @u) (H:(sb6 hd bd a).run=u (fun x=>foL L.en L.xs p s (.next x)) (fun t=>foL L.en L.xs p s (.exit t)) (foL L.en L.xs p s .fail) p s):L.Rd hd bd p s a (u .next .exit .fail p s) :=
 H.trans (q (foL L.en L.xs p s) Stp.next Stp.exit Stp.fail p s).symm
theorem Rd.sel {hd:St→DT St} {bd:St→DT (d7×St)} {p:π} {s:σ} {a1 a0:St} {b1 b0:Stp σ} (c:Bool) (h1:L.Rd hd bd p s a1 b1) (h0:L.Rd hd bd p s a0 b0):L.Rd hd bd p s (sel c a1 a0) (sel c b1 b0):=by
 cases c with
 | true=>exact h1
 | false=>exact h0
theorem ok (l:List ((St→DT (d7×St))×PC)) (hs:Lb0 L.rt L.lc=l) (hl:Ga5 (fun x=>∀ s,Y4 L.k L.F.res (x.1 s) (J2 L.E L.k x.2 s)) l) (hN:L.E.N=rounds+1) (ha:L.HA) (h:L.H0):L.Ok :=
 Cb2.belowC (zd0 _ _ (by rw[hs];exact hl)) hN ⟨ha,h⟩
theorem okE (l:List ((St→DT (d7×St))×PC)) (hs:Lb0 L.rt L.lc=l) (hl:Ga5 (fun x=>∀ s,S9 (x.1 s) (J2 L.E L.k x.2 s)) l) (hN:L.E.N=rounds+1) (ha:L.HA) (h:L.H1):L.OkE :=
 Cb2.belowML (Vc6 _ _ (by rw[hs];exact hl)) hN ⟨ha,h⟩
theorem okM (l:List ((St→DT (d7×St))×PC)) (hs:Lb0 L.rt L.lc=l) (hl:Ga5 (fun x=>∀ s,S9 (x.1 s) (J2 L.E L.k x.2 s)) l) (hN:L.E.N=rounds+1) (ha:L.HA) (h:L.H2):L.OkM :=
 Cb2.belowM (Vc6 _ _ (by rw[hs];exact hl)) hN ⟨ha,h⟩
end Lo
theorem za4 {E : Env} {F : PFn} {args : List b7} {blks : List b8} {o : Option (b7 × List b8)} (rt : RT) (l : List ((St → DT (d7 × St)) × PC)) (hs : Lb0 rt F.body = l)
  (hl:Ga5 (fun x=>∀ s,Y4 (len blks) F.res (x.1 s) (J2 E (len blks) x.2 s)) l) (h:(qe2 E F (Fc8 rt F.body) args blks).run=o) (r:b7×List b8) (hr:o=some r):(k9 E F args blks).run=some r :=
 sd5 (zd0 rt _ (by rw[hs];exact hl)) r (h.trans hr)
theorem ge9 {E : Env} {F : PFn} {args : List b7} {blks : List b8} {o : Option (b7 × List b8)} (rt : RT) (l : List ((St → DT (d7 × St)) × PC)) (hs : Lb0 rt F.body = l)
  (hl:Ga5 (fun x=>∀ s,S9 (x.1 s) (J2 E (len blks) x.2 s)) l) (h:(fe2 E F (Db4 rt F.body) args blks).run=o) (r:b7×List b8) (hr:o=some r):(Db0 E F args blks).run=some r :=
 id6 (Vc6 rt _ (by rw[hs];exact hl)) r (h.trans hr)
theorem s5 {A o:Option (b7×List b8)} (h:A=o) (r:b7×List b8) (hr:o=some r):A=some r:=h.trans hr
end Go.Ev.L
namespace Go.Ev.Ce
structure V3 where
 x:Int
 y:Int
 z:Int
structure Pln where
 n:V3
 b:Int
structure Pt where
 px:Int
 py:Int
 pz:Int
 pw:Int
def F6 (a b:V3):V3:=⟨a.y*b.z - a.z*b.y,a.z*b.x - a.x*b.z,a.x*b.y - a.y*b.x⟩
def dot (a b:V3):Int:=a.x*b.x+a.y*b.y+a.z*b.z
def mw (p q r:Pln):Int:=dot p.n (F6 q.n r.n)
end Go.Ev.Ce
namespace Go.Ev.Ce
open Go Go.Ev Go.Ev.L Go.Proofs
@[reducible] noncomputable def prog:Program:=Tryz.prog
noncomputable def G:Nat→List Value:=fun _=>[]
noncomputable def En (l:List (Nat×Sum)):Env:={ P:=prog,G,fns:=fun _=>none,call:=je7 l,own:=fun f j=>Bool.and (Oa7 f [99,103,105,135,163,198,200,202]) (Nat.beq j 0),N:=18446744073709551616 }
@[reducible] def u:b7:=.v (.tuple #[])
theorem ve6 {l:List (Nat×Sum)} (h:l0 prog G l):∀ f,i6 (En l).P (En l).G f ((En l).call f):=yd0 h
theorem bd {l:List (Nat×Sum)} {f:FuncId} {R:Env→Sum} (b:r5 prog f R) (h:l0 prog G l):i6 prog G f (R (En l)):=b rfl (ve6 h)
noncomputable def tV:Ty V3 where
 es:=3
 row x:=[i x.x,i x.y,i x.z]
 rd r:=⟨toI (hdA r),toI (hdA (tlA r)),toI (hdA (tlA (tlA r)))⟩
 ok r:=ra7 3 r
 cks:=List.replicate 3 (.int .i64)
 d:=⟨0,0,0⟩
 h0 _:=rfl
 h1 _:=rfl
 h2 _:=rfl
 h3 _ h:=.of (Ea6 h)
 h4 _:=rfl
 h5 _:=rfl
noncomputable def r1V:R1 V3:=r1A tV 3 fun _ h=>h
noncomputable def tP:Ty Pln where
 es:=4
 row x:=[i x.n.x,i x.n.y,i x.n.z,i x.b]
 rd r:=⟨⟨toI (hdA r),toI (hdA (tlA r)),toI (hdA (tlA (tlA r)))⟩,toI (hdA (tlA (tlA (tlA r))))⟩
 ok r:=ra7 4 r
 cks:=List.replicate 4 (.int .i64)
 d:=⟨⟨0,0,0⟩,0⟩
 h0 _:=rfl
 h1 _:=rfl
 h2 _:=rfl
 h3 _ h:=.of (Ea6 h)
 h4 _:=rfl
 h5 _:=rfl
noncomputable def r1P:R1 Pln:=r1A tP 4 fun _ h=>h
noncomputable def tX:Ty Pt where
 es:=4
 row x:=[i x.px,i x.py,i x.pz,i x.pw]
 rd r:=⟨toI (hdA r),toI (hdA (tlA r)),toI (hdA (tlA (tlA r))),toI (hdA (tlA (tlA (tlA r))))⟩
 ok r:=ra7 4 r
 cks:=List.replicate 4 (.int .i64)
 d:=⟨0,0,0,0⟩
 h0 _:=rfl
 h1 _:=rfl
 h2 _:=rfl
 h3 _ h:=.of (Ea6 h)
 h4 _:=rfl
 h5 _:=rfl
noncomputable def r1X:R1 Pt:=r1A tX 4 fun _ h=>h
structure Tp where
 p:Pln
 q:Pln
 r:Pln
noncomputable def tY:Ty Tp where
 es:=12
 row x:=[i x.p.n.x,i x.p.n.y,i x.p.n.z,i x.p.b,i x.q.n.x,i x.q.n.y,i x.q.n.z,i x.q.b,i x.r.n.x,i x.r.n.y,i x.r.n.z,i x.r.b]
 rd r:=⟨⟨⟨toI (hdA r),toI (hdA (tlA r)),toI (hdA (tlA (tlA r)))⟩,toI (hdA (tlA (tlA (tlA r))))⟩,⟨⟨toI (hdA (tlA (tlA (tlA (tlA r))))),toI (hdA (tlA (tlA (tlA (tlA (tlA r)))))),toI (hdA (tlA (tlA (tlA (tlA (tlA (tlA r)))))))⟩,toI (hdA (tlA (tlA (tlA (tlA (tlA (tlA (tlA r))))))))⟩,⟨⟨toI (hdA (tlA (tlA (tlA (tlA (tlA (tlA (tlA (tlA r))))))))),toI (hdA (tlA (tlA (tlA (tlA (tlA (tlA (tlA (tlA (tlA r)))))))))),toI (hdA (tlA (tlA (tlA (tlA (tlA (tlA (tlA (tlA (tlA (tlA r)))))))))))⟩,toI (hdA (tlA (tlA (tlA (tlA (tlA (tlA (tlA (tlA (tlA (tlA (tlA r))))))))))))⟩⟩
 ok r:=ra7 12 r
 cks:=List.replicate 12 (.int .i64)
 d:=⟨⟨⟨0,0,0⟩,0⟩,⟨⟨0,0,0⟩,0⟩,⟨⟨0,0,0⟩,0⟩⟩
 h0 _:=rfl
 h1 _:=rfl
 h2 _:=rfl
 h3 _ h:=.of (Ea6 h)
 h4 _:=rfl
 h5 _:=rfl
structure Q2 where
 a:V3
 b:V3
noncomputable def tQ:Ty Q2 where
 es:=6
 row x:=[i x.a.x,i x.a.y,i x.a.z,i x.b.x,i x.b.y,i x.b.z]
 rd r:=⟨⟨toI (hdA r),toI (hdA (tlA r)),toI (hdA (tlA (tlA r)))⟩,⟨toI (hdA (tlA (tlA (tlA r)))),toI (hdA (tlA (tlA (tlA (tlA r))))),toI (hdA (tlA (tlA (tlA (tlA (tlA r))))))⟩⟩
 ok r:=ra7 6 r
 cks:=List.replicate 6 (.int .i64)
 d:=⟨⟨0,0,0⟩,⟨0,0,0⟩⟩
 h0 _:=rfl
 h1 _:=rfl
 h2 _:=rfl
 h3 _ h:=.of (Ea6 h)
 h4 _:=rfl
 h5 _:=rfl
end Go.Ev.Ce
section
namespace Go.Ev.Ce
open Go Go.Ev Go.Ev.L Go.Proofs
set_option maxRecDepth 100000
noncomputable def id9:List (Nat×Sum):=[]
theorem Vc7:l0 prog G id9:=trivial
noncomputable def bb9 (x:Pln) (y:Pt):Int:=(W ((W ((W ((W (x.b*y.pw)) - (W (x.n.x*y.px)))) - (W (x.n.y*y.py)))) - (W (x.n.z*y.pz))))
noncomputable def Qb3:Sum:=ia7 (O8 tP) (O8 tX) (fun x y=>.ret ((one r1I).enc (bb9 x y),[]))
theorem kc3:i6 prog G 37 Qb3:=xa2 (bd b37 Vc7) fun x y=>s5 (by kernel_rfl)
noncomputable def ud0:List (Nat×Sum):=[]
theorem jd0:l0 prog G ud0:=trivial
noncomputable def Za8 (x:V3) (y:V3):V3:=(⟨(W (x.x+y.x)),(W (x.y+y.y)),(W (x.z+y.z))⟩:V3)
noncomputable def Pc3:Sum:=ia7 (O8 tV) (O8 tV) (fun x y=>.ret ((one r1V).enc (Za8 x y),[]))
theorem ud1:i6 prog G 126 Pc3:=xa2 (bd De5 jd0) fun x y=>s5 (by kernel_rfl)
noncomputable def ud2:List (Nat×Sum):=[]
theorem jd1:l0 prog G ud2:=trivial
noncomputable def Ea8 (x:V3) (y:V3):Int:=(W ((W ((W (x.x*y.x))+(W (x.y*y.y))))+(W (x.z*y.z))))
noncomputable def Jb3:Sum:=ia7 (O8 tV) (O8 tV) (fun x y=>.ret ((one r1I).enc (Ea8 x y),[]))
theorem Qb4:i6 prog G 130 Jb3:=xa2 (bd De7 jd1) fun x y=>s5 (by kernel_rfl)
noncomputable def Vc8:List (Nat×Sum):=[]
theorem Fc9:l0 prog G Vc8:=trivial
noncomputable def P0 (x:V3) (y:V3):V3:=(⟨(W ((W (x.y*y.z)) - (W (x.z*y.y)))),(W ((W (x.z*y.x)) - (W (x.x*y.z)))),(W ((W (x.x*y.y)) - (W (x.y*y.x))))⟩:V3)
noncomputable def Db5:Sum:=ia7 (O8 tV) (O8 tV) (fun x y=>.ret ((one r1V).enc (P0 x y),[]))
theorem Wb8:i6 prog G 186 Db5:=xa2 (bd Fe9 Fc9) fun x y=>s5 (by kernel_rfl)
noncomputable def Gc0:List (Nat×Sum):=[]
theorem xc3:l0 prog G Gc0:=trivial
noncomputable def N3 (x:V3) (y:Int):V3:=(⟨(W (x.x*y)),(W (x.y*y)),(W (x.z*y))⟩:V3)
noncomputable def Wb9:Sum:=ia7 (O8 tV) cI (fun x y=>.ret ((one r1V).enc (N3 x y),[]))
theorem Gc1:i6 prog G 219 Wb9:=xa2 (bd Ge7 xc3) fun x y=>s5 (by kernel_rfl)
noncomputable def Mb9:List (Nat×Sum):=[]
theorem xc4:l0 prog G Mb9:=trivial
structure ta1 where
structure U3 where
 is0:Int
 is1:Int
noncomputable def mc9 (p:ta1) (s:U3):St:=⟨((i s.is0)::((i s.is1)::(ra 10 []))),[]⟩
noncomputable def ja5 {α:Type} (k:U3→α) (e:Nat→α) (z:α) (p:ta1) (s:U3):α:=(sl (s.is1 != 0) (sl (s.is1==0) z (k ⟨s.is1,(Int.tmod s.is0 s.is1)⟩)) (e 1))
noncomputable def oa1 (p:ta1) (s:U3):Stp U3:=ja5 .next .exit .fail p s
noncomputable def cb0:Lo ta1 U3:=⟨En Mb9,0,ge7,[1,0,4,4],[0,1],.p,[⟨((.s (.o (.int .i64)))::((.s (.o (.int .i64)))::(ru2 10 []))),[],fun a H=>(⟨⟩,⟨(toI (slT a 0)),(toI (slT a 1))⟩)⟩],oa1,[(some 0,fun p s=>⟨((i s.is0)::((i s.is1)::(ra 3 ((i s.is1)::((b (s.is1 != 0))::(ra 5 [])))))),[]⟩)],mc9⟩
theorem nc0:cb0.Ok:=Lo.ok [] (by kernel_rfl) .nil rfl (.cons (fun a H=>by kernel_rfl) .nil) fun p s=>(.of @ja5 (fun F _ _ _ _ _=>by unfold ja5;(repeat' apply n7 (f:=F))<;>rfl) (by kernel_rfl))
noncomputable def Ga6 (x:Int) (y:Int):Option (b7×List b8):=let t1:=(lp (oa1 (⟨⟩:ta1)) (⟨x,y⟩:U3));(sl (Nat.beq t1.1 1) (some ((i t1.2.is0),[])) none)
noncomputable def N4 (x:Int) (y:Int):Int:=J9 (one r1I) (Ga6 x y)
noncomputable def N5 (x:Int) (y:Int):Bool:=okO (one r1I) (Ga6 x y)
noncomputable def Xb0:Sum:=ia7 cI cI (fun x y=>.guard (N5 x y) (.ret ((one r1I).enc (N4 x y),[])))
theorem Gc2:i6 prog G 220 Xb0:=bb2 (bd Ge8 xc4) (one r1I) (o:=Ga6) fun x y=>za4 (.s .p (.s (.b (.u cb0.ls)) .p)) [cb0.pr] (by kernel_rfl) (.cons nc0 .nil) (by kernel_rfl)
noncomputable def jd2:List (Nat×Sum):=[(186,Db5),(130,Jb3),(219,Wb9),(126,Pc3),(220,Xb0)]
theorem Vc9:l0 prog G jd2:=⟨Wb8,Qb4,Gc1,ud1,Gc2,trivial⟩
noncomputable def cb1 (x:Pln) (y:Pln) (z:Pln):Option (b7×List b8):=let t1:=(P0 y.n z.n);let t2:=(Ea8 x.n t1);let t3:=(N3 t1 x.b);let t4:=(P0 z.n x.n);let t5:=(N3 t4 y.b);let t6:=(Za8 t3 t5);let t7:=(P0 x.n y.n);let t8:=(N3 t7 z.b);let t9:=(Za8 t6 t8);let t10:=(N3 t9 (-1));let t11:=(N4 (if (W (0 - t10.x)) > t10.x then (W (0 - t10.x)) else t10.x) (if (W (0 - t10.y)) > t10.y then (W (0 - t10.y)) else t10.y));let t12:=(N4 (if (W (0 - t10.z)) > t10.z then (W (0 - t10.z)) else t10.z) (W (0 - t2)));let t13:=(N4 t11 t12);let t14:=(N4 (if (W (0 - t9.x)) > t9.x then (W (0 - t9.x)) else t9.x) (if (W (0 - t9.y)) > t9.y then (W (0 - t9.y)) else t9.y));let t15:=(N4 (if (W (0 - t9.z)) > t9.z then (W (0 - t9.z)) else t9.z) t2);let t16:=(N4 t14 t15);(sl (t2==0) (some ((.tup [(.agg [(i 0),(i 0),(i 0),(i 0)]),(b false)]),[])) (sl (decide (t2 < 0)) (sl (N5 (if (W (0 - t10.x)) > t10.x then (W (0 - t10.x)) else t10.x) (if (W (0 - t10.y)) > t10.y then (W (0 - t10.y)) else t10.y)) (sl (N5 (if (W (0 - t10.z)) > t10.z then (W (0 - t10.z)) else t10.z) (W (0 - t2))) (sl (N5 t11 t12) (sl (t13==0) none (sl (t13==0) none (sl (t13==0) none (sl (t13==0) none (some ((.tup [(.agg [(i (W (Int.tdiv t10.x t13))),(i (W (Int.tdiv t10.y t13))),(i (W (Int.tdiv t10.z t13))),(i (W (Int.tdiv (W (0 - t2)) t13)))]),(b true)]),[])))))) none) none) none) (sl (N5 (if (W (0 - t9.x)) > t9.x then (W (0 - t9.x)) else t9.x) (if (W (0 - t9.y)) > t9.y then (W (0 - t9.y)) else t9.y)) (sl (N5 (if (W (0 - t9.z)) > t9.z then (W (0 - t9.z)) else t9.z) t2) (sl (N5 t14 t15) (sl (t16==0) none (sl (t16==0) none (sl (t16==0) none (sl (t16==0) none (some ((.tup [(.agg [(i (W (Int.tdiv t9.x t16))),(i (W (Int.tdiv t9.y t16))),(i (W (Int.tdiv t9.z t16))),(i (W (Int.tdiv t2 t16)))]),(b true)]),[])))))) none) none) none)))
noncomputable def cb2 (x:Pln) (y:Pln) (z:Pln):Pt×Bool:=J9 (two r1X r1B) (cb1 x y z)
noncomputable def cb3 (x:Pln) (y:Pln) (z:Pln):Bool:=okO (two r1X r1B) (cb1 x y z)
noncomputable def xc5:Sum:=ec1 (O8 tP) (O8 tP) (O8 tP) (fun x y z=>.guard (cb3 x y z) (.ret ((two r1X r1B).enc (cb2 x y z),[])))
theorem jd3:i6 prog G 172 xc5:=ke2 (bd Ee8 Vc9) (two r1X r1B) (o:=cb1) fun x y z=>s5 (by kernel_rfl)
noncomputable def Pc4:List (Nat×Sum):=[(37,Qb3)]
theorem ud3:l0 prog G Pc4:=⟨kc3,trivial⟩
structure cb4 where
 c9:List Pln
 i7:Int
 c8:Int
 i8:Int
 e8:Int
structure na1 where
 is5:Int
noncomputable def jd4 (p:cb4) (s:na1):St:=⟨((eL tP p.c9)::(.unk::(.unk::((.ptr 0 0 0 0)::(.unk::((i s.is5)::(ra 13 []))))))),[⟨0,4,[[(i p.i7),(i p.c8),(i p.i8),(i p.e8)]],true,false,0⟩]⟩
noncomputable def Ga7 {α:Type} (k:na1→α) (e:Nat→α) (z:α) (p:cb4) (s:na1):α:=let t1:=(bb9 (gL tP p.c9 s.is5.toNat) (⟨p.i7,p.c8,p.i8,p.e8⟩:Pt));(sl (decide (s.is5 < (↑(List.length p.c9):Int))) (sl (inB s.is5 (List.length p.c9)) (sl (decide (t1 < 0)) (e 1) (k ⟨(W (s.is5+1))⟩)) z) (e 2))
noncomputable def Pa1 (p:cb4) (s:na1):Stp na1:=Ga7 .next .exit .fail p s
noncomputable def Qb5:Lo cb4 na1:=⟨En Pc4,0,fe5,[1,0,1,4,4],[0,3,5],.p,[⟨((.s (.c 4 (nL tP)))::((.s (.o .unk))::((.s (.o .unk))::((.s (.o (.ptr 0 0 0 0)))::((.s (.o .unk))::((.s (.o (.int .i64)))::(ru2 13 []))))))),[⟨0,4,true,(some [[(.o (.int .i64)),(.o (.int .i64)),(.o (.int .i64)),(.o (.int .i64))]])⟩],fun a H=>(⟨(rL tP (slT a 0)),(toI (slT (rwT (elT H 0) 0) 0)),(toI (slT (rwT (elT H 0) 0) 1)),(toI (slT (rwT (elT H 0) 0) 2)),(toI (slT (rwT (elT H 0) 0) 3))⟩,⟨(toI (slT a 5))⟩)⟩],Pa1,[(none,fun p s=>⟨[(b false)],[]⟩),(some 0,fun p s=>⟨((eL tP p.c9)::(.unk::(.unk::((.ptr 0 0 0 0)::(.unk::((i s.is5)::((i s.is5)::((eL tP p.c9)::((i (↑(List.length p.c9):Int))::((b (decide (s.is5 < (↑(List.length p.c9):Int))))::(ra 9 []))))))))))),[⟨0,4,[[(i p.i7),(i p.c8),(i p.i8),(i p.e8)]],true,false,0⟩]⟩)],jd4⟩
theorem jd5:Qb5.Ok:=Lo.ok [] (by kernel_rfl) .nil rfl (.cons (fun a H=>by kernel_rfl) .nil) fun p s=>(.of @Ga7 (fun F _ _ _ _ _=>by unfold Ga7;(repeat' apply n7 (f:=F))<;>rfl) (by kernel_rfl))
noncomputable def Db6 (x:List Pln) (y:Pt):Option (b7×List b8):=let t1:=(lp (Pa1 (⟨(rt tP x),y.px,y.py,y.pz,y.pw⟩:cb4)) (⟨0⟩:na1));(sl ((cnE tP x)&&true) (sl (Nat.beq t1.1 1) (some ((b false),[])) (sl (Nat.beq t1.1 2) (some ((b true),[])) none)) none)
noncomputable def cb5 (x:List Pln) (y:Pt):Bool:=J9 (one r1B) (Db6 x y)
noncomputable def cb6 (x:List Pln) (y:Pt):Bool:=okO (one r1B) (Db6 x y)
noncomputable def xc6:Sum:=ia7 (W6 tP) (O8 tX) (fun x y=>.guard (cb6 x y) (.ret ((one r1B).enc (cb5 x y),[])))
theorem Pc5:i6 prog G 110 xc6:=bb2 (bd Ce8 ud3) (one r1B) (o:=Db6) fun x y=>za4 (.s .p (.s (.s .p (.b (.u Qb5.ls))) .p)) [Qb5.pr] (by kernel_rfl) (.cons jd5 .nil) (by kernel_rfl)
noncomputable def Xb1:List (Nat×Sum):=[]
theorem Gc3:l0 prog G Xb1:=trivial
structure Aa1 where
 A9:List Pt
 i7:Int
 c8:Int
 i8:Int
 e8:Int
structure T1 where
 is5:Int
noncomputable def xc7 (p:Aa1) (s:T1):St:=⟨((eL tX p.A9)::(.unk::(.unk::((.ptr 0 0 0 0)::(.unk::((i s.is5)::(ra 12 []))))))),[⟨0,4,[[(i p.i7),(i p.c8),(i p.i8),(i p.e8)]],true,false,0⟩]⟩
noncomputable def oa2 {α:Type} (k:T1→α) (e:Nat→α) (z:α) (p:Aa1) (s:T1):α:=(sl (decide (s.is5 < (↑(List.length p.A9):Int))) (sl (inB s.is5 (List.length p.A9)) (sl (((gL tX p.A9 s.is5.toNat).px==p.i7)&&(((gL tX p.A9 s.is5.toNat).py==p.c8)&&(((gL tX p.A9 s.is5.toNat).pz==p.i8)&&(((gL tX p.A9 s.is5.toNat).pw==p.e8)&&true)))) (e 1) (k ⟨(W (s.is5+1))⟩)) z) (e 2))
noncomputable def ta2 (p:Aa1) (s:T1):Stp T1:=oa2 .next .exit .fail p s
noncomputable def lb4:Lo Aa1 T1:=⟨En Xb1,0,ge0,[1,0,1,4,4],[0,3,5],.p,[⟨((.s (.c 4 (nL tX)))::((.s (.o .unk))::((.s (.o .unk))::((.s (.o (.ptr 0 0 0 0)))::((.s (.o .unk))::((.s (.o (.int .i64)))::(ru2 12 []))))))),[⟨0,4,true,(some [[(.o (.int .i64)),(.o (.int .i64)),(.o (.int .i64)),(.o (.int .i64))]])⟩],fun a H=>(⟨(rL tX (slT a 0)),(toI (slT (rwT (elT H 0) 0) 0)),(toI (slT (rwT (elT H 0) 0) 1)),(toI (slT (rwT (elT H 0) 0) 2)),(toI (slT (rwT (elT H 0) 0) 3))⟩,⟨(toI (slT a 5))⟩)⟩],ta2,[(none,fun p s=>⟨[(b true)],[]⟩),(some 0,fun p s=>⟨((eL tX p.A9)::(.unk::(.unk::((.ptr 0 0 0 0)::(.unk::((i s.is5)::((i s.is5)::((eL tX p.A9)::((i (↑(List.length p.A9):Int))::((b (decide (s.is5 < (↑(List.length p.A9):Int))))::(ra 8 []))))))))))),[⟨0,4,[[(i p.i7),(i p.c8),(i p.i8),(i p.e8)]],true,false,0⟩]⟩)],xc7⟩
theorem xc8:lb4.Ok:=Lo.ok [] (by kernel_rfl) .nil rfl (.cons (fun a H=>by kernel_rfl) .nil) fun p s=>(.of @oa2 (fun F _ _ _ _ _=>by unfold oa2;(repeat' apply n7 (f:=F))<;>rfl) (by kernel_rfl))
noncomputable def Pa2 (x:List Pt) (y:Pt):Option (b7×List b8):=let t1:=(lp (ta2 (⟨(rt tX x),y.px,y.py,y.pz,y.pw⟩:Aa1)) (⟨0⟩:T1));(sl ((cnE tX x)&&true) (sl (Nat.beq t1.1 1) (some ((b true),[])) (sl (Nat.beq t1.1 2) (some ((b false),[])) none)) none)
noncomputable def Ea9 (x:List Pt) (y:Pt):Bool:=J9 (one r1B) (Pa2 x y)
noncomputable def Fa0 (x:List Pt) (y:Pt):Bool:=okO (one r1B) (Pa2 x y)
noncomputable def kc4:Sum:=ia7 (W6 tX) (O8 tX) (fun x y=>.guard (Fa0 x y) (.ret ((one r1B).enc (Ea9 x y),[])))
theorem Wc0:i6 prog G 173 kc4:=bb2 (bd Ee9 Gc3) (one r1B) (o:=Pa2) fun x y=>za4 (.s .p (.s (.s .p (.b (.u lb4.ls))) .p)) [lb4.pr] (by kernel_rfl) (.cons xc8 .nil) (by kernel_rfl)
noncomputable def Ga8:List (Nat×Sum):=[(172,xc5),(110,xc6),(173,kc4)]
theorem nc1:l0 prog G Ga8:=⟨jd3,Pc5,Wc0,trivial⟩
structure K2 where
 c9:List Pln
 is4:Int
 is5:Int
structure p9 where
 ph:Nat
 is6:Int
 ns3:Nat
 eh0:List (List b7)
noncomputable def Xb2 (p:K2) (s:p9):St:=⟨((eL tP p.c9)::(.unk::(.unk::((.v (.slice none 0 0))::((i p.is4)::((i p.is5)::((i s.is6)::(ra 57 [])))))))),[]⟩
noncomputable def Xb3 (p:K2) (s:p9):St:=⟨((eL tP p.c9)::(.unk::(.unk::((.sl 0 0 s.ns3 0)::((i p.is4)::((i p.is5)::((i s.is6)::(ra 57 [])))))))),[⟨54,4,s.eh0,true,false,0⟩]⟩
noncomputable def fc2 (p:K2) (s:p9):St:=(sel (Nat.beq s.ph 1) (Xb3 p s) (Xb2 p s))
noncomputable def N6 {α:Type} (k:p9→α) (e:Nat→α) (z:α) (p:K2) (s:p9):α:=let t1:=(cb2 (gL tP p.c9 p.is4.toNat) (gL tP p.c9 p.is5.toNat) (gL tP p.c9 s.is6.toNat));let t2:=(cb5 (rt tP p.c9) t1.1);let t3:=(Ea9 [] t1.1);(sl (decide (s.is6 < (↑(List.length p.c9):Int))) (sl (inB p.is4 (List.length p.c9)) (sl (inB p.is5 (List.length p.c9)) (sl (inB s.is6 (List.length p.c9)) (sl (cb3 (gL tP p.c9 p.is4.toNat) (gL tP p.c9 p.is5.toNat) (gL tP p.c9 s.is6.toNat)) (sl t1.2 (sl (okE tP p.c9) (sl (cb6 (rt tP p.c9) t1.1) (sl t2 (sl (Fa0 [] t1.1) (sl (!t3) (k ⟨1,(W (s.is6+1)),1,[[(i t1.1.px),(i t1.1.py),(i t1.1.pz),(i t1.1.pw)]]⟩) (k ⟨0,(W (s.is6+1)),0,[]⟩)) z) (k ⟨0,(W (s.is6+1)),0,[]⟩)) z) z) (k ⟨0,(W (s.is6+1)),0,[]⟩)) z) z) z) z) (e 1))
noncomputable def N7 {α:Type} (k:p9→α) (e:Nat→α) (z:α) (p:K2) (s:p9):α:=let t1:=(cb2 (gL tP p.c9 p.is4.toNat) (gL tP p.c9 p.is5.toNat) (gL tP p.c9 s.is6.toNat));let t2:=(cb5 (rt tP p.c9) t1.1);let t3:=(Ea9 (slR tX s.eh0 0 s.ns3) t1.1);(sl (decide (s.is6 < (↑(List.length p.c9):Int))) (sl (inB p.is4 (List.length p.c9)) (sl (inB p.is5 (List.length p.c9)) (sl (inB s.is6 (List.length p.c9)) (sl (cb3 (gL tP p.c9 p.is4.toNat) (gL tP p.c9 p.is5.toNat) (gL tP p.c9 s.is6.toNat)) (sl t1.2 (sl (okE tP p.c9) (sl (cb6 (rt tP p.c9) t1.1) (sl t2 (sl (okS tX s.eh0 0 s.ns3) (sl (Fa0 (slR tX s.eh0 0 s.ns3) t1.1) (sl (!t3) (sl (Nat.beq s.ns3 (len s.eh0)&&Nat.ble ((s.ns3+1)*32) room) (k ⟨1,(W (s.is6+1)),(s.ns3+1),(app s.eh0 [[(i t1.1.px),(i t1.1.py),(i t1.1.pz),(i t1.1.pw)]])⟩) z) (k ⟨1,(W (s.is6+1)),s.ns3,s.eh0⟩)) z) z) (k ⟨1,(W (s.is6+1)),s.ns3,s.eh0⟩)) z) z) (k ⟨1,(W (s.is6+1)),s.ns3,s.eh0⟩)) z) z) z) z) (e 2))
noncomputable def L8 (p:K2) (s:p9):Stp p9:=(sel (Nat.beq s.ph 1) (N7 .next .exit .fail p s) (N6 .next .exit .fail p s))
noncomputable def Ta7:Lo K2 p9:=⟨En Ga8,0,Yd6,[1,1,0,1,4,4,1,0,4,1,4,4,1,0,4,1,4,4],[0,3,4,5,6],.p,[⟨((.s (.c 4 (nL tP)))::((.s (.o .unk))::((.s (.o .unk))::((.s (.o .nil))::((.s (.o (.int .i64)))::((.s (.o (.int .i64)))::((.s (.o (.int .i64)))::(ru2 57 [])))))))),[],fun a H=>(⟨(rL tP (slT a 0)),(toI (slT a 4)),(toI (slT a 5))⟩,⟨0,(toI (slT a 6)),0,[]⟩)⟩,⟨((.s (.c 4 (nL tP)))::((.s (.o .unk))::((.s (.o .unk))::((.s (.o (.sl 0 0 (some 0) none)))::((.s (.o (.int .i64)))::((.s (.o (.int .i64)))::((.s (.o (.int .i64)))::(ru2 57 [])))))))),[⟨54,4,true,none⟩],fun a H=>(⟨(rL tP (slT a 0)),(toI (slT a 4)),(toI (slT a 5))⟩,⟨1,(toI (slT a 6)),(slN (slT a 3)),(elT H 0)⟩)⟩],L8,[(some 4,fun p s=>⟨((eL tP p.c9)::(.unk::(.unk::((.v (.slice none 0 0))::((i p.is4)::((i p.is5)::((i s.is6)::(ra 18 ((i s.is6)::((eL tP p.c9)::((i (↑(List.length p.c9):Int))::((b (decide (s.is6 < (↑(List.length p.c9):Int))))::(ra 35 []))))))))))))),[]⟩),(some 4,fun p s=>⟨((eL tP p.c9)::(.unk::(.unk::((.sl 0 0 s.ns3 0)::((i p.is4)::((i p.is5)::((i s.is6)::(ra 18 ((i s.is6)::((eL tP p.c9)::((i (↑(List.length p.c9):Int))::((b (decide (s.is6 < (↑(List.length p.c9):Int))))::(ra 35 []))))))))))))),[⟨54,4,s.eh0,true,false,0⟩]⟩)],fc2⟩
theorem fc3:Ta7.Ok:=Lo.ok [] (by kernel_rfl) .nil rfl (.cons (fun a H=>by kernel_rfl) (.cons (fun a H=>by kernel_rfl) .nil)) fun p s=>(.sel (Nat.beq s.ph 1) (.of @N7 (fun F _ _ _ _ _=>by unfold N7;(repeat' apply n7 (f:=F))<;>rfl) (by kernel_rfl)) (.of @N6 (fun F _ _ _ _ _=>by unfold N6;(repeat' apply n7 (f:=F))<;>rfl) (by kernel_rfl)))
structure K3 where
 is4:Int
structure r6 where
 ph:Nat
 c9:List Pln
 is5:Int
 ns3:Nat
 eh0:List (List b7)
noncomputable def Xb4 (p:K3) (s:r6):St:=⟨((eL tP s.c9)::(.unk::(.unk::((.v (.slice none 0 0))::((i p.is4)::((i s.is5)::(ra 58 []))))))),[]⟩
noncomputable def Xb5 (p:K3) (s:r6):St:=⟨((eL tP s.c9)::(.unk::(.unk::((.sl 0 0 s.ns3 0)::((i p.is4)::((i s.is5)::(ra 58 []))))))),[⟨54,4,s.eh0,true,false,0⟩]⟩
noncomputable def fc4 (p:K3) (s:r6):St:=(sel (Nat.beq s.ph 1) (Xb5 p s) (Xb4 p s))
noncomputable def N8 {α:Type} (k:r6→α) (e:Nat→α) (z:α) (p:K3) (s:r6):α:=let t1:=(lp (L8 (⟨(rt tP s.c9),p.is4,s.is5⟩:K2)) (⟨0,(W (s.is5+1)),0,[]⟩:p9));(sl (decide (s.is5 < (↑(List.length s.c9):Int))) (sl ((cnE tP s.c9)&&true) (sl (Nat.beq t1.1 1) (k ⟨0,(rt tP s.c9),(W (s.is5+1)),0,[]⟩) (sl (Nat.beq t1.1 2) (k ⟨1,(rt tP s.c9),(W (s.is5+1)),t1.2.ns3,t1.2.eh0⟩) z)) z) (e 1))
noncomputable def N9 {α:Type} (k:r6→α) (e:Nat→α) (z:α) (p:K3) (s:r6):α:=let t1:=(lp (L8 (⟨(rt tP s.c9),p.is4,s.is5⟩:K2)) (⟨1,(W (s.is5+1)),s.ns3,s.eh0⟩:p9));(sl (decide (s.is5 < (↑(List.length s.c9):Int))) (sl ((cnE tP s.c9)&&true) (sl (Nat.beq t1.1 1) (k ⟨0,(rt tP s.c9),(W (s.is5+1)),0,[]⟩) (sl (Nat.beq t1.1 2) (k ⟨1,(rt tP s.c9),(W (s.is5+1)),t1.2.ns3,t1.2.eh0⟩) z)) z) (e 2))
noncomputable def I1 (p:K3) (s:r6):Stp r6:=(sel (Nat.beq s.ph 1) (N9 .next .exit .fail p s) (N8 .next .exit .fail p s))
noncomputable def Ta8:Lo K3 r6:=⟨En Ga8,0,Yd6,[1,1,0,1,4,4,1,0,4,1,4,4],[0,3,4,5],(.s .p (.s (.b (.s .p (.b (.u Ta7.ls)))) .p)),[⟨((.s (.c 4 (nL tP)))::((.s (.o .unk))::((.s (.o .unk))::((.s (.o .nil))::((.s (.o (.int .i64)))::((.s (.o (.int .i64)))::(ru2 58 []))))))),[],fun a H=>(⟨(toI (slT a 4))⟩,⟨0,(rL tP (slT a 0)),(toI (slT a 5)),0,[]⟩)⟩,⟨((.s (.c 4 (nL tP)))::((.s (.o .unk))::((.s (.o .unk))::((.s (.o (.sl 0 0 (some 0) none)))::((.s (.o (.int .i64)))::((.s (.o (.int .i64)))::(ru2 58 []))))))),[⟨54,4,true,none⟩],fun a H=>(⟨(toI (slT a 4))⟩,⟨1,(rL tP (slT a 0)),(toI (slT a 5)),(slN (slT a 3)),(elT H 0)⟩)⟩],I1,[(some 2,fun p s=>⟨((eL tP s.c9)::(.unk::(.unk::((.v (.slice none 0 0))::((i p.is4)::((i s.is5)::(ra 11 ((i s.is5)::((eL tP s.c9)::((i (↑(List.length s.c9):Int))::((b (decide (s.is5 < (↑(List.length s.c9):Int))))::(ra 43 [])))))))))))),[]⟩),(some 2,fun p s=>⟨((eL tP s.c9)::(.unk::(.unk::((.sl 0 0 s.ns3 0)::((i p.is4)::((i s.is5)::(ra 11 ((i s.is5)::((eL tP s.c9)::((i (↑(List.length s.c9):Int))::((b (decide (s.is5 < (↑(List.length s.c9):Int))))::(ra 43 [])))))))))))),[⟨54,4,s.eh0,true,false,0⟩]⟩)],fc4⟩
theorem fc5:Ta8.Ok:=Lo.ok [Ta7.pr] (by kernel_rfl) (.cons fc3 .nil) rfl (.cons (fun a H=>by kernel_rfl) (.cons (fun a H=>by kernel_rfl) .nil)) fun p s=>(.sel (Nat.beq s.ph 1) (.of @N9 (fun F _ _ _ _ _=>by unfold N9;(repeat' apply n7 (f:=F))<;>rfl) (by kernel_rfl)) (.of @N8 (fun F _ _ _ _ _=>by unfold N8;(repeat' apply n7 (f:=F))<;>rfl) (by kernel_rfl)))
structure P1 where
structure y8 where
 ph:Nat
 c9:List Pln
 is4:Int
 ns3:Nat
 eh0:List (List b7)
noncomputable def Xb6 (p:P1) (s:y8):St:=⟨((eL tP s.c9)::(.unk::(.unk::((.v (.slice none 0 0))::((i s.is4)::(ra 59 [])))))),[]⟩
noncomputable def Xb7 (p:P1) (s:y8):St:=⟨((eL tP s.c9)::(.unk::(.unk::((.sl 0 0 s.ns3 0)::((i s.is4)::(ra 59 [])))))),[⟨54,4,s.eh0,true,false,0⟩]⟩
noncomputable def fc6 (p:P1) (s:y8):St:=(sel (Nat.beq s.ph 1) (Xb7 p s) (Xb6 p s))
noncomputable def O0 {α:Type} (k:y8→α) (e:Nat→α) (z:α) (p:P1) (s:y8):α:=let t1:=(lp (I1 (⟨s.is4⟩:K3)) (⟨0,(rt tP s.c9),(W (s.is4+1)),0,[]⟩:r6));(sl (decide (s.is4 < (↑(List.length s.c9):Int))) (sl ((cnE tP s.c9)&&true) (sl (Nat.beq t1.1 1) (k ⟨0,t1.2.c9,(W (s.is4+1)),0,[]⟩) (sl (Nat.beq t1.1 2) (k ⟨1,t1.2.c9,(W (s.is4+1)),t1.2.ns3,t1.2.eh0⟩) z)) z) (e 1))
noncomputable def O1 {α:Type} (k:y8→α) (e:Nat→α) (z:α) (p:P1) (s:y8):α:=let t1:=(lp (I1 (⟨s.is4⟩:K3)) (⟨1,(rt tP s.c9),(W (s.is4+1)),s.ns3,s.eh0⟩:r6));(sl (decide (s.is4 < (↑(List.length s.c9):Int))) (sl ((cnE tP s.c9)&&true) (sl (Nat.beq t1.1 1) (k ⟨0,t1.2.c9,(W (s.is4+1)),0,[]⟩) (sl (Nat.beq t1.1 2) (k ⟨1,t1.2.c9,(W (s.is4+1)),t1.2.ns3,t1.2.eh0⟩) z)) z) (e 2))
noncomputable def L9 (p:P1) (s:y8):Stp y8:=(sel (Nat.beq s.ph 1) (O1 .next .exit .fail p s) (O0 .next .exit .fail p s))
noncomputable def Ta9:Lo P1 y8:=⟨En Ga8,0,Yd6,[1,1,0,1,4,4],[0,3,4],(.s .p (.s (.b (.s .p (.b (.u Ta8.ls)))) .p)),[⟨((.s (.c 4 (nL tP)))::((.s (.o .unk))::((.s (.o .unk))::((.s (.o .nil))::((.s (.o (.int .i64)))::(ru2 59 [])))))),[],fun a H=>(⟨⟩,⟨0,(rL tP (slT a 0)),(toI (slT a 4)),0,[]⟩)⟩,⟨((.s (.c 4 (nL tP)))::((.s (.o .unk))::((.s (.o .unk))::((.s (.o (.sl 0 0 (some 0) none)))::((.s (.o (.int .i64)))::(ru2 59 [])))))),[⟨54,4,true,none⟩],fun a H=>(⟨⟩,⟨1,(rL tP (slT a 0)),(toI (slT a 4)),(slN (slT a 3)),(elT H 0)⟩)⟩],L9,[(some 0,fun p s=>⟨((eL tP s.c9)::(.unk::(.unk::((.v (.slice none 0 0))::((i s.is4)::(ra 4 ((i s.is4)::((eL tP s.c9)::((i (↑(List.length s.c9):Int))::((b (decide (s.is4 < (↑(List.length s.c9):Int))))::(ra 51 []))))))))))),[]⟩),(some 0,fun p s=>⟨((eL tP s.c9)::(.unk::(.unk::((.sl 0 0 s.ns3 0)::((i s.is4)::(ra 4 ((i s.is4)::((eL tP s.c9)::((i (↑(List.length s.c9):Int))::((b (decide (s.is4 < (↑(List.length s.c9):Int))))::(ra 51 []))))))))))),[⟨54,4,s.eh0,true,false,0⟩]⟩)],fc6⟩
theorem fc7:Ta9.Ok:=Lo.ok [Ta8.pr] (by kernel_rfl) (.cons fc5 .nil) rfl (.cons (fun a H=>by kernel_rfl) (.cons (fun a H=>by kernel_rfl) .nil)) fun p s=>(.sel (Nat.beq s.ph 1) (.of @O1 (fun F _ _ _ _ _=>by unfold O1;(repeat' apply n7 (f:=F))<;>rfl) (by kernel_rfl)) (.of @O0 (fun F _ _ _ _ _=>by unfold O0;(repeat' apply n7 (f:=F))<;>rfl) (by kernel_rfl)))
noncomputable def Aa2 (x:List Pln):Option (b7×List b8):=let t1:=(lp (L9 (⟨⟩:P1)) (⟨0,(rt tP x),0,0,[]⟩:y8));(sl ((cnE tP x)&&true) (sl (Nat.beq t1.1 1) (some ((.v (.slice none 0 0)),[])) (sl (Nat.beq t1.1 2) (some ((.sl 0 0 t1.2.ns3 0),[⟨54,4,t1.2.eh0,true,false,0⟩])) none)) none)
noncomputable def Aa3 (x:List Pln):List Pt:=J9 (one (r1L tX)) (Aa2 x)
noncomputable def Aa4 (x:List Pln):Bool:=okO (one (r1L tX)) (Aa2 x)
noncomputable def lb5:Sum:=ea8 (W6 tP) (fun x=>.guard (Aa4 x) (.ret ((one (r1L tX)).enc (Aa3 x),[])))
theorem Db7:i6 prog G 90 lb5:=za3 (bd b90 nc1) (one (r1L tX)) (o:=Aa2) fun x=>za4 (.s .p (.s .p (.s (.s .p (.b (.u Ta9.ls))) .p))) [Ta9.pr] (by kernel_rfl) (.cons fc7 .nil) (by kernel_rfl)
noncomputable def jb9:List (Nat×Sum):=[]
theorem Qb6:l0 prog G jb9:=trivial
@[reducible] noncomputable def xa3:Sum:=k9 (En jb9) fe7
theorem Ga9:i6 prog G 166 xa3:=bd Ee2 Qb6
noncomputable def nc2:List (Nat×Sum):=[]
theorem fc8:l0 prog G nc2:=trivial
noncomputable def ta3 (x:Int):Option (b7×List b8):=(sl (decide (x < 0)) (some ((i (W (0 - x))),[])) (some ((i x),[])))
noncomputable def ja6 (x:Int):Int:=J9 (one r1I) (ta3 x)
noncomputable def ja7 (x:Int):Bool:=okO (one r1I) (ta3 x)
noncomputable def Db8:Sum:=ea8 cI (fun x=>.guard (ja7 x) (.ret ((one r1I).enc (ja6 x),[])))
theorem nc3:i6 prog G 215 Db8:=za3 (bd Ge4 fc8) (one r1I) (o:=ta3) fun x=>s5 (by kernel_rfl)
noncomputable def kc5:List (Nat×Sum):=[(215,Db8),(166,xa3)]
theorem Wc1:l0 prog G kc5:=⟨nc3,Ga9,trivial⟩
structure fa0 where
 is6:Int
 i7:Int
 c8:Int
 i8:Int
 aa4:Int
 aa5:Int
 aa6:Int
structure O2 where
 is5:Int
 is7:Int
noncomputable def Gc4 (p:fa0) (s:O2):St:=⟨(.unk::((.ptr 0 0 0 0)::((.ptr 1 0 0 0)::(.unk::((.ptr 2 0 0 0)::((i s.is5)::((i p.is6)::((i s.is7)::(ra 38 []))))))))),[⟨0,3,[[(i p.i7),(i p.c8),(i p.i8)]],true,false,0⟩,⟨0,3,[[(i 0),(i 0),(i 0)]],true,false,0⟩,⟨0,3,[[(i p.aa4),(i p.aa5),(i p.aa6)]],true,false,0⟩]⟩
noncomputable def ta4 {α:Type} (k:O2→α) (e:Nat→α) (z:α) (p:fa0) (s:O2):α:=(sl (decide (s.is7 > 0)) (sl (s.is7==0) z (k ⟨s.is7,(Int.tmod s.is5 s.is7)⟩)) (e 1))
noncomputable def aa8 (p:fa0) (s:O2):Stp O2:=ta4 .next .exit .fail p s
noncomputable def tb2:Lo fa0 O2:=⟨En kc5,0,fe8,[1,1,1,0,1,4,4,1,0,4,1,1,4,4],[1,2,4,5,6,7],.p,[⟨((.s (.o .unk))::((.s (.o (.ptr 0 0 0 0)))::((.s (.o (.ptr 1 0 0 0)))::((.s (.o .unk))::((.s (.o (.ptr 2 0 0 0)))::((.s (.o (.int .i64)))::((.s (.o (.int .i64)))::((.s (.o (.int .i64)))::(ru2 38 []))))))))),[⟨0,3,true,(some [[(.o (.int .i64)),(.o (.int .i64)),(.o (.int .i64))]])⟩,⟨0,3,true,(some [[(.o (.lit .i64 0)),(.o (.lit .i64 0)),(.o (.lit .i64 0))]])⟩,⟨0,3,true,(some [[(.o (.int .i64)),(.o (.int .i64)),(.o (.int .i64))]])⟩],fun a H=>(⟨(toI (slT a 6)),(toI (slT (rwT (elT H 0) 0) 0)),(toI (slT (rwT (elT H 0) 0) 1)),(toI (slT (rwT (elT H 0) 0) 2)),(toI (slT (rwT (elT H 2) 0) 0)),(toI (slT (rwT (elT H 2) 0) 1)),(toI (slT (rwT (elT H 2) 0) 2))⟩,⟨(toI (slT a 5)),(toI (slT a 7))⟩)⟩],aa8,[(some 2,fun p s=>⟨(.unk::((.ptr 0 0 0 0)::((.ptr 1 0 0 0)::(.unk::((.ptr 2 0 0 0)::((i s.is5)::((i p.is6)::((i s.is7)::(ra 15 ((i s.is7)::((b (decide (s.is7 > 0)))::(ra 21 [])))))))))))),[⟨0,3,[[(i p.i7),(i p.c8),(i p.i8)]],true,false,0⟩,⟨0,3,[[(i 0),(i 0),(i 0)]],true,false,0⟩,⟨0,3,[[(i p.aa4),(i p.aa5),(i p.aa6)]],true,false,0⟩]⟩)],Gc4⟩
theorem Gc5:tb2.Ok:=Lo.ok [] (by kernel_rfl) .nil rfl (.cons (fun a H=>by kernel_rfl) .nil) fun p s=>(.of @ta4 (fun F _ _ _ _ _=>by unfold ta4;(repeat' apply n7 (f:=F))<;>rfl) (by kernel_rfl))
noncomputable def cb7 (x:V3):Option (b7×List b8):=let t1:=(ja6 x.x);let t2:=(lp (aa8 (⟨0,x.x,x.y,x.z,x.x,x.y,x.z⟩:fa0)) (⟨0,t1⟩:O2));let t3:=(ja6 x.y);let t4:=(lp (aa8 (⟨1,x.x,x.y,x.z,x.x,x.y,x.z⟩:fa0)) (⟨t2.2.is5,t3⟩:O2));let t5:=(ja6 x.z);let t6:=(lp (aa8 (⟨2,x.x,x.y,x.z,x.x,x.y,x.z⟩:fa0)) (⟨t4.2.is5,t5⟩:O2));(sl (x.x==(-9223372036854775808)) (some ((.tup [(.agg [(i 0),(i 0),(i 0)]),(i 0)]),[])) (sl (ja7 x.x) (sl (Nat.beq t2.1 1) (sl (x.y==(-9223372036854775808)) (some ((.tup [(.agg [(i 0),(i 0),(i 0)]),(i 0)]),[])) (sl (ja7 x.y) (sl (Nat.beq t4.1 1) (sl (x.z==(-9223372036854775808)) (some ((.tup [(.agg [(i 0),(i 0),(i 0)]),(i 0)]),[])) (sl (ja7 x.z) (sl (Nat.beq t6.1 1) (sl (t6.2.is5==0) (some ((.tup [(.agg [(i 0),(i 0),(i 0)]),(i 0)]),[])) (sl (t6.2.is5==0) none (sl (t6.2.is5==0) none (sl (t6.2.is5==0) none (some ((.tup [(.agg [(i (W (Int.tdiv x.x t6.2.is5))),(i (W (Int.tdiv x.y t6.2.is5))),(i (W (Int.tdiv x.z t6.2.is5)))]),(i t6.2.is5)]),[])))))) none) none)) none) none)) none) none))
noncomputable def Ea0 (x:V3):V3×Int:=J9 (two r1V r1I) (cb7 x)
noncomputable def cb8 (x:V3):Bool:=okO (two r1V r1I) (cb7 x)
noncomputable def Qb7:Sum:=ea8 (O8 tV) (fun x=>.guard (cb8 x) (.ret ((two r1V r1I).enc (Ea0 x),[])))
theorem kc6:i6 prog G 167 Qb7:=za3 (bd Ee3 Wc1) (two r1V r1I) (o:=cb7) fun x=>za4 (.s .p (.s .p (.s .p (.s (.s .p (.b (.l (.s .p (.s (.b (.s .p (.s .p (.b (.u tb2.ls))))) .p))))) .p)))) [tb2.pr] (by kernel_rfl) (.cons Gc5 .nil) (by kernel_rfl)
noncomputable def Wc2:List (Nat×Sum):=[(167,Qb7),(166,xa3)]
theorem Gc6:l0 prog G Wc2:=⟨kc6,Ga9,trivial⟩
noncomputable def Pa3 (x:Pln):Option (b7×List b8):=let t1:=(Ea0 x.n);(sl (decide (x.n.x < (-4608))) (some ((b false),[])) (sl (decide (x.n.x > 4608)) (some ((b false),[])) (sl (decide (x.n.y < (-4608))) (some ((b false),[])) (sl (decide (x.n.y > 4608)) (some ((b false),[])) (sl (decide (x.n.z < (-4608))) (some ((b false),[])) (sl (decide (x.n.z > 4608)) (some ((b false),[])) (sl (cb8 x.n) (sl (t1.2==1) (sl (decide (x.b≥(-2097152))) (some ((b (decide (x.b≤2097152))),[])) (some ((b false),[]))) (some ((b false),[]))) none)))))))
noncomputable def Pa4 (x:Pln):Bool:=J9 (one r1B) (Pa3 x)
noncomputable def Pa5 (x:Pln):Bool:=okO (one r1B) (Pa3 x)
noncomputable def Db9:Sum:=ea8 (O8 tP) (fun x=>.guard (Pa5 x) (.ret ((one r1B).enc (Pa4 x),[])))
theorem Xb8:i6 prog G 86 Db9:=za3 (bd b86 Gc6) (one r1B) (o:=Pa3) fun x=>s5 (by kernel_rfl)
noncomputable def Xb9:List (Nat×Sum):=[(86,Db9)]
theorem Gc7:l0 prog G Xb9:=⟨Xb8,trivial⟩
structure Aa5 where
 c9:List Pln
structure T2 where
 is3:Int
noncomputable def xc9 (p:Aa5) (s:T2):St:=⟨((eL tP p.c9)::(.unk::(.unk::((i s.is3)::(ra 15 []))))),[]⟩
noncomputable def oa3 {α:Type} (k:T2→α) (e:Nat→α) (z:α) (p:Aa5) (s:T2):α:=let t1:=(Pa4 (gL tP p.c9 s.is3.toNat));(sl (decide (s.is3 < (↑(List.length p.c9):Int))) (sl (inB s.is3 (List.length p.c9)) (sl (Pa5 (gL tP p.c9 s.is3.toNat)) (sl (!t1) (e 1) (k ⟨(W (s.is3+1))⟩)) z) z) (e 2))
noncomputable def ta5 (p:Aa5) (s:T2):Stp T2:=oa3 .next .exit .fail p s
noncomputable def lb6:Lo Aa5 T2:=⟨En Xb9,0,re4,[1,1,0,1,4,4],[0,3],.p,[⟨((.s (.c 4 (nL tP)))::((.s (.o .unk))::((.s (.o .unk))::((.s (.o (.int .i64)))::(ru2 15 []))))),[],fun a H=>(⟨(rL tP (slT a 0))⟩,⟨(toI (slT a 3))⟩)⟩],ta5,[(none,fun p s=>⟨[(i 12)],[]⟩),(some 0,fun p s=>⟨((eL tP p.c9)::(.unk::(.unk::((i s.is3)::(ra 3 ((i s.is3)::((eL tP p.c9)::((i (↑(List.length p.c9):Int))::((b (decide (s.is3 < (↑(List.length p.c9):Int))))::(ra 8 [])))))))))),[]⟩)],xc9⟩
theorem yc0:lb6.Ok:=Lo.ok [] (by kernel_rfl) .nil rfl (.cons (fun a H=>by kernel_rfl) .nil) fun p s=>(.of @oa3 (fun F _ _ _ _ _=>by unfold oa3;(repeat' apply n7 (f:=F))<;>rfl) (by kernel_rfl))
noncomputable def Pa6 (x:List Pln):Option (b7×List b8):=let t1:=(lp (ta5 (⟨(rt tP x)⟩:Aa5)) (⟨0⟩:T2));(sl (decide ((↑(List.length x):Int) > 48)) (some ((i 2),[])) (sl ((cnE tP x)&&true) (sl (Nat.beq t1.1 1) (some ((i 12),[])) (sl (Nat.beq t1.1 2) (some ((i 0),[])) none)) none))
noncomputable def ma4 (x:List Pln):Int:=J9 (one r1I) (Pa6 x)
noncomputable def ma5 (x:List Pln):Bool:=okO (one r1I) (Pa6 x)
noncomputable def Pa7:Sum:=ea8 (W6 tP) (fun x=>.guard (ma5 x) (.ret ((one r1I).enc (ma4 x),[])))
theorem Xa4:i6 prog G 16 Pa7:=za3 (bd b16 Gc7) (one r1I) (o:=Pa6) fun x=>za4 (.s .p (.s .p (.s (.s .p (.b (.u lb6.ls))) .p))) [lb6.pr] (by kernel_rfl) (.cons yc0 .nil) (by kernel_rfl)
noncomputable def ud4:List (Nat×Sum):=[]
theorem jd6:l0 prog G ud4:=trivial
noncomputable def Jb4 (x:V3) (y:V3):Option (b7×List b8):=(some ((.sl 0 0 6 0),[⟨50,4,[[(i 1),(i 0),(i 0),(i y.x)],[(i (-1)),(i 0),(i 0),(i (W (0 - x.x)))],[(i 0),(i 1),(i 0),(i y.y)],[(i 0),(i (-1)),(i 0),(i (W (0 - x.y)))],[(i 0),(i 0),(i 1),(i y.z)],[(i 0),(i 0),(i (-1)),(i (W (0 - x.z)))]],true,false,0⟩]))
noncomputable def pb3 (x:V3) (y:V3):List Pln:=J9 (one (r1L tP)) (Jb4 x y)
noncomputable def Za9 (x:V3) (y:V3):Bool:=okO (one (r1L tP)) (Jb4 x y)
noncomputable def fc9:Sum:=ia7 (O8 tV) (O8 tV) (fun x y=>.guard (Za9 x y) (.ret ((one (r1L tP)).enc (pb3 x y),[])))
theorem yc1:i6 prog G 111 fc9:=bb2 (bd ve3 jd6) (one (r1L tP)) (o:=Jb4) fun x y=>s5 (by kernel_rfl)
noncomputable def ud5:List (Nat×Sum):=[(111,fc9)]
theorem jd7:l0 prog G ud5:=⟨yc1,trivial⟩
noncomputable def pb4 (x:List Pln):Option (b7×List b8):=let t1:=(pb3 (⟨(-24),(-24),(-24)⟩:V3) (⟨24,24,24⟩:V3));(sl (Nat.beq (len (k8 (fun k=>(tP).row (gL tP x k)) (List.range (List.length x)))) 0) (sl (Za9 (⟨(-24),(-24),(-24)⟩:V3) (⟨24,24,24⟩:V3)) (sl (Nat.beq (len (k8 (fun k=>(tP).row (gL tP t1 k)) (List.range (List.length t1)))) 0) (some ((.sl 0 0 0 0),[⟨50,4,[],true,false,0⟩])) (sl (Nat.beq 0 0&&Nat.ble ((0+(len (k8 (fun k=>(tP).row (gL tP t1 k)) (List.range (List.length t1)))))*32) room) (some ((.sl 0 0 (0+(len (k8 (fun k=>(tP).row (gL tP t1 k)) (List.range (List.length t1))))) 0),[⟨50,4,(app [] (k8 (fun k=>(tP).row (gL tP t1 k)) (List.range (List.length t1)))),true,false,0⟩])) none)) none) (sl (Nat.beq 0 0&&Nat.ble ((0+(len (k8 (fun k=>(tP).row (gL tP x k)) (List.range (List.length x)))))*32) room) (sl (Za9 (⟨(-24),(-24),(-24)⟩:V3) (⟨24,24,24⟩:V3)) (sl (Nat.beq (len (k8 (fun k=>(tP).row (gL tP t1 k)) (List.range (List.length t1)))) 0) (some ((.sl 0 0 (0+(len (k8 (fun k=>(tP).row (gL tP x k)) (List.range (List.length x))))) 0),[⟨50,4,(app [] (k8 (fun k=>(tP).row (gL tP x k)) (List.range (List.length x)))),true,false,0⟩])) (sl (Nat.beq (0+(len (k8 (fun k=>(tP).row (gL tP x k)) (List.range (List.length x))))) (len (app [] (k8 (fun k=>(tP).row (gL tP x k)) (List.range (List.length x)))))&&Nat.ble (((0+(len (k8 (fun k=>(tP).row (gL tP x k)) (List.range (List.length x)))))+(len (k8 (fun k=>(tP).row (gL tP t1 k)) (List.range (List.length t1)))))*32) room) (some ((.sl 0 0 ((0+(len (k8 (fun k=>(tP).row (gL tP x k)) (List.range (List.length x)))))+(len (k8 (fun k=>(tP).row (gL tP t1 k)) (List.range (List.length t1))))) 0),[⟨50,4,(app (app [] (k8 (fun k=>(tP).row (gL tP x k)) (List.range (List.length x)))) (k8 (fun k=>(tP).row (gL tP t1 k)) (List.range (List.length t1)))),true,false,0⟩])) none)) none) none))
noncomputable def xa4 (x:List Pln):List Pln:=J9 (one (r1L tP)) (pb4 x)
noncomputable def xa5 (x:List Pln):Bool:=okO (one (r1L tP)) (pb4 x)
noncomputable def Jb5:Sum:=ea8 (W6 tP) (fun x=>.guard (xa5 x) (.ret ((one (r1L tP)).enc (xa4 x),[])))
theorem Qb8:i6 prog G 91 Jb5:=za3 (bd b91 jd7) (one (r1L tP)) (o:=pb4) fun x=>s5 (by kernel_rfl)
noncomputable def Gc8:List (Nat×Sum):=[(16,Pa7),(91,Jb5),(90,lb5)]
theorem yc2:l0 prog G Gc8:=⟨Xa4,Qb8,Db7,trivial⟩
noncomputable def Ha0 (x:List Pln):Option (b7×List b8):=let t1:=(ma4 (rt tP x));let t2:=(xa4 (rt tP x));let t3:=(Aa3 (rt tP t2));(sl (okE tP x) (sl (ma5 (rt tP x)) (sl (t1 != 0) (some ((.v (.slice none 0 0)),[])) (sl (okE tP x) (sl (xa5 (rt tP x)) (sl (okE tP t2) (sl (Aa4 (rt tP t2)) (some ((eL tX t3),[])) none) none) none) none)) none) none)
noncomputable def Xa5 (x:List Pln):List Pt:=J9 (one (r1L tX)) (Ha0 x)
noncomputable def Xa6 (x:List Pln):Bool:=okO (one (r1L tX)) (Ha0 x)
noncomputable def Yb0:Sum:=ea8 (W6 tP) (fun x=>.guard (Xa6 x) (.ret ((one (r1L tX)).enc (Xa5 x),[])))
theorem Gc9:i6 prog G 19 Yb0:=za3 (bd b19 yc2) (one (r1L tX)) (o:=Ha0) fun x=>s5 (by kernel_rfl)
noncomputable def Eb0:List (Nat×Sum):=[(90,lb5),(37,Qb3)]
theorem Wc3:l0 prog G Eb0:=⟨Db7,kc3,trivial⟩
structure Ha1 where
 c9:List Pln
 kb3:List Pt
 is4:Int
structure fa1 where
 bs5:Bool
 is6:Int
noncomputable def Hc0 (p:Ha1) (s:fa1):St:=⟨((eL tP p.c9)::(.unk::(.unk::((eL tX p.kb3)::((i p.is4)::((b s.bs5)::((i s.is6)::(ra 29 [])))))))),[]⟩
noncomputable def ta6 {α:Type} (k:fa1→α) (e:Nat→α) (z:α) (p:Ha1) (s:fa1):α:=let t1:=(bb9 (gL tP p.c9 p.is4.toNat) (gL tX p.kb3 s.is6.toNat));(sl (decide (s.is6 < (↑(List.length p.kb3):Int))) (sl s.bs5 (k ⟨true,(W (s.is6+1))⟩) (sl (inB p.is4 (List.length p.c9)) (sl (inB s.is6 (List.length p.kb3)) (k ⟨(decide (t1 > 0)),(W (s.is6+1))⟩) z) z)) (e 1))
noncomputable def qa4 (p:Ha1) (s:fa1):Stp fa1:=ta6 .next .exit .fail p s
noncomputable def tb3:Lo Ha1 fa1:=⟨En Eb0,0,le7,[1,1,0,1,4,4,1,0,4,1,0,1,4,4],[0,3,4,5,6],.p,[⟨((.s (.c 4 (nL tP)))::((.s (.o .unk))::((.s (.o .unk))::((.s (.c 4 (nL tX)))::((.s (.o (.int .i64)))::((.s (.o .bool))::((.s (.o (.int .i64)))::(ru2 29 [])))))))),[],fun a H=>(⟨(rL tP (slT a 0)),(rL tX (slT a 3)),(toI (slT a 4))⟩,⟨(toB (slT a 5)),(toI (slT a 6))⟩)⟩],qa4,[(some 2,fun p s=>⟨((eL tP p.c9)::(.unk::(.unk::((eL tX p.kb3)::((i p.is4)::((b s.bs5)::((i s.is6)::(ra 8 ((i s.is6)::((eL tX p.kb3)::((i (↑(List.length p.kb3):Int))::((b (decide (s.is6 < (↑(List.length p.kb3):Int))))::(ra 17 []))))))))))))),[]⟩)],Hc0⟩
theorem Hc1:tb3.Ok:=Lo.ok [] (by kernel_rfl) .nil rfl (.cons (fun a H=>by kernel_rfl) .nil) fun p s=>(.of @ta6 (fun F _ _ _ _ _=>by unfold ta6;(repeat' apply n7 (f:=F))<;>rfl) (by kernel_rfl))
structure Ha2 where
structure Y5 where
 c9:List Pln
 kb3:List Pt
 is4:Int
noncomputable def Hc2 (p:Ha2) (s:Y5):St:=⟨((eL tP s.c9)::(.unk::(.unk::((eL tX s.kb3)::((i s.is4)::(ra 31 [])))))),[]⟩
noncomputable def ta7 {α:Type} (k:Y5→α) (e:Nat→α) (z:α) (p:Ha2) (s:Y5):α:=let t1:=(lp (qa4 (⟨(rt tP s.c9),(rt tX s.kb3),s.is4⟩:Ha1)) (⟨false,0⟩:fa1));(sl (decide (s.is4 < (↑(List.length s.c9):Int))) (sl ((cnE tP s.c9)&&((cnE tX s.kb3)&&true)) (sl (Nat.beq t1.1 1) (sl (!t1.2.bs5) (e 1) (k ⟨(rt tP s.c9),(rt tX s.kb3),(W (s.is4+1))⟩)) z) z) (e 2))
noncomputable def Aa6 (p:Ha2) (s:Y5):Stp Y5:=ta7 .next .exit .fail p s
noncomputable def tb4:Lo Ha2 Y5:=⟨En Eb0,0,le7,[1,1,0,1,4,4],[0,3,4],(.s .p (.s (.b (.s .p (.s (.s .p (.b (.u tb3.ls))) .p))) .p)),[⟨((.s (.c 4 (nL tP)))::((.s (.o .unk))::((.s (.o .unk))::((.s (.c 4 (nL tX)))::((.s (.o (.int .i64)))::(ru2 31 [])))))),[],fun a H=>(⟨⟩,⟨(rL tP (slT a 0)),(rL tX (slT a 3)),(toI (slT a 4))⟩)⟩],Aa6,[(none,fun p s=>⟨[(b false)],[]⟩),(some 0,fun p s=>⟨((eL tP s.c9)::(.unk::(.unk::((eL tX s.kb3)::((i s.is4)::(ra 4 ((i s.is4)::((eL tP s.c9)::((i (↑(List.length s.c9):Int))::((b (decide (s.is4 < (↑(List.length s.c9):Int))))::(ra 23 []))))))))))),[]⟩)],Hc2⟩
theorem Hc3:tb4.Ok:=Lo.ok [tb3.pr] (by kernel_rfl) (.cons Hc1 .nil) rfl (.cons (fun a H=>by kernel_rfl) .nil) fun p s=>(.of @ta7 (fun F _ _ _ _ _=>by unfold ta7;(repeat' apply n7 (f:=F))<;>rfl) (by kernel_rfl))
noncomputable def cb9 (x:List Pln):Option (b7×List b8):=let t1:=(Aa3 (rt tP x));let t2:=(lp (Aa6 (⟨⟩:Ha2)) (⟨(rt tP x),(rt tX t1),0⟩:Y5));(sl (okE tP x) (sl (Aa4 (rt tP x)) (sl ((cnE tP x)&&((cnE tX t1)&&true)) (sl (Nat.beq t2.1 1) (some ((b false),[])) (sl (Nat.beq t2.1 2) (some ((b true),[])) none)) none) none) none)
noncomputable def ta8 (x:List Pln):Bool:=J9 (one r1B) (cb9 x)
noncomputable def ta9 (x:List Pln):Bool:=okO (one r1B) (cb9 x)
noncomputable def Qb9:Sum:=ea8 (W6 tP) (fun x=>.guard (ta9 x) (.ret ((one r1B).enc (ta8 x),[])))
theorem kc7:i6 prog G 93 Qb9:=za3 (bd b93 Wc3) (one r1B) (o:=cb9) fun x=>za4 (.s .p (.s .p (.s (.s .p (.b (.u tb4.ls))) .p))) [tb4.pr] (by kernel_rfl) (.cons Hc3 .nil) (by kernel_rfl)
noncomputable def jd8:List (Nat×Sum):=[(16,Pa7),(91,Jb5),(93,Qb9)]
theorem Wc4:l0 prog G jd8:=⟨Xa4,Qb8,kc7,trivial⟩
noncomputable def db0 (x:List Pln):Option (b7×List b8):=let t1:=(ma4 (rt tP x));let t2:=(xa4 (rt tP x));let t3:=(ta8 (rt tP t2));(sl (okE tP x) (sl (ma5 (rt tP x)) (sl (t1==0) (sl (okE tP x) (sl (xa5 (rt tP x)) (sl (okE tP t2) (sl (ta9 (rt tP t2)) (some ((b t3),[])) none) none) none) none) (some ((b false),[]))) none) none)
noncomputable def Ma0 (x:List Pln):Bool:=J9 (one r1B) (db0 x)
noncomputable def Ea1 (x:List Pln):Bool:=okO (one r1B) (db0 x)
noncomputable def Rb0:Sum:=ea8 (W6 tP) (fun x=>.guard (Ea1 x) (.ret ((one r1B).enc (Ma0 x),[])))
theorem kc8:i6 prog G 21 Rb0:=za3 (bd b21 Wc4) (one r1B) (o:=db0) fun x=>s5 (by kernel_rfl)
noncomputable def ud6:List (Nat×Sum):=[]
theorem jd9:l0 prog G ud6:=trivial
noncomputable def pb5 (x:Int) (y:Int):Option (b7×List b8):=(sl (decide (y < 1)) (some ((i 0),[])) (sl (y==0) none (sl (y==0) none (some ((i (Int.tmod (W ((Int.tmod x y)+y)) y)),[])))))
noncomputable def qa5 (x:Int) (y:Int):Int:=J9 (one r1I) (pb5 x y)
noncomputable def ja8 (x:Int) (y:Int):Bool:=okO (one r1I) (pb5 x y)
noncomputable def pb6:Sum:=ia7 cI cI (fun x y=>.guard (ja8 x y) (.ret ((one r1I).enc (qa5 x y),[])))
theorem tb5:i6 prog G 47 pb6:=bb2 (bd b47 jd9) (one r1I) (o:=pb5) fun x y=>s5 (by kernel_rfl)
structure Ud6 where
 Ob3:List Pt
structure Ud7 where
 is8:Int
 aa4:Int
 aa5:Int
 aa6:Int
 Kb3:Int
 Kb4:Int
 Kb5:Int
end Go.Ev.Ce
end
section
namespace Go.Ev.Ce
open Go Go.Ev Go.Ev.L Go.Proofs
set_option maxRecDepth 100000
noncomputable def Wc5:List (Nat×Sum):=[]
theorem Hc4:l0 prog G Wc5:=trivial
noncomputable def Fa1 (x:V3) (y:V3):Int:=(W ((W ((W (x.x*y.x))+(W (x.y*y.y))))+(W (x.z*y.z))))
noncomputable def Eb1:Sum:=ia7 (O8 tV) (O8 tV) (fun x y=>.ret ((one r1I).enc (Fa1 x y),[]))
theorem Yb1:i6 prog G 129 Eb1:=xa2 (bd De6 Hc4) fun x y=>s5 (by kernel_rfl)
noncomputable def Wc6:List (Nat×Sum):=[]
theorem Hc5:l0 prog G Wc6:=trivial
noncomputable def ma6 (x:V3) (y:V3):V3:=(⟨(W (x.x+y.x)),(W (x.y+y.y)),(W (x.z+y.z))⟩:V3)
noncomputable def kc9:Sum:=ia7 (O8 tV) (O8 tV) (fun x y=>.ret ((one r1V).enc (ma6 x y),[]))
theorem Wc7:i6 prog G 54 kc9:=xa2 (bd b54 Hc5) fun x y=>s5 (by kernel_rfl)
noncomputable def Hc6:List (Nat×Sum):=[]
theorem yc3:l0 prog G Hc6:=trivial
noncomputable def O3 (x:V3) (y:Int):V3:=(⟨(W (x.x*y)),(W (x.y*y)),(W (x.z*y))⟩:V3)
noncomputable def tb6:Sum:=ia7 (O8 tV) cI (fun x y=>.ret ((one r1V).enc (O3 x y),[]))
theorem Nb0:i6 prog G 94 tb6:=xa2 (bd b94 yc3) fun x y=>s5 (by kernel_rfl)
noncomputable def yc4:List (Nat×Sum):=[]
theorem nc4:l0 prog G yc4:=trivial
noncomputable def N2 (x:V3) (y:V3):V3:=(⟨(W ((W (x.y*y.z)) - (W (x.z*y.y)))),(W ((W (x.z*y.x)) - (W (x.x*y.z)))),(W ((W (x.x*y.y)) - (W (x.y*y.x))))⟩:V3)
noncomputable def Nb1:Sum:=ia7 (O8 tV) (O8 tV) (fun x y=>.ret ((one r1V).enc (N2 x y),[]))
theorem yc5:i6 prog G 142 Nb1:=xa2 (bd De8 nc4) fun x y=>s5 (by kernel_rfl)
noncomputable def Wc8:List (Nat×Sum):=[(129,Eb1)]
theorem Hc7:l0 prog G Wc8:=⟨Yb1,trivial⟩
noncomputable def ma7 (x:Pln) (y:Pt):Int:=let t1:=(Fa1 x.n (⟨y.px,y.py,y.pz⟩:V3));(W ((W (x.b*y.pw)) - t1))
noncomputable def kb0:Sum:=ia7 (O8 tP) (O8 tX) (fun x y=>.ret ((one r1I).enc (ma7 x y),[]))
theorem tb7:i6 prog G 102 kb0:=xa2 (bd Ce2 Hc7) fun x y=>s5 (by kernel_rfl)
noncomputable def Eb2:List (Nat×Sum):=[]
theorem Wc9:l0 prog G Eb2:=trivial
structure xa6 where
 za0:List Int
 is7:Int
 is8:Int
structure fa2 where
 is3:Int
 is5:Int
noncomputable def Hc8 (p:xa6) (s:fa2):St:=⟨(ra 3 ((i s.is3)::(.unk::((i s.is5)::((eL tI p.za0)::((i p.is7)::((i p.is8)::(ra 14 [])))))))),[]⟩
noncomputable def ua0 {α:Type} (k:fa2→α) (e:Nat→α) (z:α) (p:xa6) (s:fa2):α:=(sl (s.is5 != 0) (sl (s.is5==0) z (k ⟨s.is5,(Int.tmod s.is3 s.is5)⟩)) (e 1))
noncomputable def Aa7 (p:xa6) (s:fa2):Stp fa2:=ua0 .next .exit .fail p s
noncomputable def tb8:Lo xa6 fa2:=⟨En Eb2,0,Pd2,[1,1,0,1,4,4,1,1,0,4,1,4,4],[3,5,6,7,8],.p,[⟨(ru2 3 ((.s (.o (.int .i64)))::((.s (.o .unk))::((.s (.o (.int .i64)))::((.s (.c 1 (nL tI)))::((.s (.o (.int .i64)))::((.s (.o (.int .i64)))::(ru2 14 [])))))))),[],fun a H=>(⟨(rL tI (slT a 6)),(toI (slT a 7)),(toI (slT a 8))⟩,⟨(toI (slT a 3)),(toI (slT a 5))⟩)⟩],Aa7,[(some 2,fun p s=>⟨(ra 3 ((i s.is3)::(.unk::((i s.is5)::((eL tI p.za0)::((i p.is7)::((i p.is8)::(ra 3 ((i s.is5)::((b (s.is5 != 0))::(ra 9 []))))))))))),[]⟩)],Hc8⟩
theorem Hc9:tb8.Ok:=Lo.ok [] (by kernel_rfl) .nil rfl (.cons (fun a H=>by kernel_rfl) .nil) fun p s=>(.of @ua0 (fun F _ _ _ _ _=>by unfold ua0;(repeat' apply n7 (f:=F))<;>rfl) (by kernel_rfl))
structure Ha3 where
 is7:Int
structure fa3 where
 is3:Int
 za0:List Int
 is8:Int
noncomputable def Ic0 (p:Ha3) (s:fa3):St:=⟨(ra 3 ((i s.is3)::(.unk::(.unk::((eL tI s.za0)::((i p.is7)::((i s.is8)::(ra 14 [])))))))),[]⟩
noncomputable def ua1 {α:Type} (k:fa3→α) (e:Nat→α) (z:α) (p:Ha3) (s:fa3):α:=let t1:=(lp (Aa7 (⟨(rt tI s.za0),p.is7,s.is8⟩:xa6)) (⟨s.is3,(gL tI s.za0 s.is8.toNat)⟩:fa2));(sl (decide (s.is8 < p.is7)) (sl (inB s.is8 (List.length s.za0)) (sl ((cnE tI s.za0)&&true) (sl (Nat.beq t1.1 1) (k ⟨t1.2.is3,(rt tI s.za0),(W (s.is8+1))⟩) z) z) z) (e 1))
noncomputable def qa6 (p:Ha3) (s:fa3):Stp fa3:=ua1 .next .exit .fail p s
noncomputable def tb9:Lo Ha3 fa3:=⟨En Eb2,0,Pd2,[1,1,0,1,4,4],[3,6,7,8],(.s .p (.s .p (.s (.b (.s .p (.b (.u tb8.ls)))) .p))),[⟨(ru2 3 ((.s (.o (.int .i64)))::((.s (.o .unk))::((.s (.o .unk))::((.s (.c 1 (nL tI)))::((.s (.o (.int .i64)))::((.s (.o (.int .i64)))::(ru2 14 [])))))))),[],fun a H=>(⟨(toI (slT a 7))⟩,⟨(toI (slT a 3)),(rL tI (slT a 6)),(toI (slT a 8))⟩)⟩],qa6,[(some 0,fun p s=>⟨(ra 3 ((i s.is3)::(.unk::(.unk::((eL tI s.za0)::((i p.is7)::((i s.is8)::((b (decide (s.is8 < p.is7)))::(ra 13 []))))))))),[]⟩)],Ic0⟩
theorem Ic1:tb9.Ok:=Lo.ok [tb8.pr] (by kernel_rfl) (.cons Hc9 .nil) rfl (.cons (fun a H=>by kernel_rfl) .nil) fun p s=>(.of @ua1 (fun F _ _ _ _ _=>by unfold ua1;(repeat' apply n7 (f:=F))<;>rfl) (by kernel_rfl))
noncomputable def db1 (x:List Int):Option (b7×List b8):=let t1:=(lp (qa6 (⟨(↑(List.length x):Int)⟩:Ha3)) (⟨0,(rt tI x),0⟩:fa3));(sl ((cnE tI x)&&true) (sl (Nat.beq t1.1 1) (some ((i (if (W (0 - t1.2.is3)) > t1.2.is3 then (W (0 - t1.2.is3)) else t1.2.is3)),[])) none) none)
noncomputable def ub0 (x:List Int):Int:=J9 (one r1I) (db1 x)
noncomputable def ub1 (x:List Int):Bool:=okO (one r1I) (db1 x)
noncomputable def yc6:Sum:=ea8 (W6 tI) (fun x=>.guard (ub1 x) (.ret ((one r1I).enc (ub0 x),[])))
theorem kd0:i6 prog G 218 yc6:=za3 (bd Ge6 Wc9) (one r1I) (o:=db1) fun x=>za4 (.s .p (.s .p (.s (.s .p (.b (.u tb9.ls))) .p))) [tb9.pr] (by kernel_rfl) (.cons Ic1 .nil) (by kernel_rfl)
noncomputable def Xc0:List (Nat×Sum):=[(142,Nb1),(129,Eb1),(94,tb6),(54,kc9),(218,yc6)]
theorem Ic2:l0 prog G Xc0:=⟨yc5,Yb1,Nb0,Wc7,kd0,trivial⟩
noncomputable def Pa8 (x:Tp):Option (b7×List b8):=let t1:=(N2 x.q.n x.r.n);let t3:=(O3 t1 x.p.b);let t4:=(ma6 (⟨0,0,0⟩:V3) t3);let t5:=(N2 x.r.n x.p.n);let t7:=(O3 t5 x.q.b);let t8:=(ma6 t4 t7);let t9:=(N2 x.p.n x.q.n);let t10:=(Fa1 x.r.n t9);let t11:=(O3 t9 x.r.b);let t12:=(ma6 t8 t11);let t13:=(ub0 [t12.x,t12.y,t12.z,t10]);(sl (t10==0) (some ((.tup [(.agg [(i 0),(i 0),(i 0),(i 0)]),(b false)]),[])) (sl (ub1 [t12.x,t12.y,t12.z,t10]) (sl (decide (t10 < 0)) (sl ((W (0 - t13))==0) none (sl ((W (0 - t13))==0) none (sl ((W (0 - t13))==0) none (sl ((W (0 - t13))==0) none (some ((.tup [(.agg [(i (W (Int.tdiv t12.x (W (0 - t13))))),(i (W (Int.tdiv t12.y (W (0 - t13))))),(i (W (Int.tdiv t12.z (W (0 - t13))))),(i (W (Int.tdiv t10 (W (0 - t13)))))]),(b true)]),[])))))) (sl (t13==0) none (sl (t13==0) none (sl (t13==0) none (sl (t13==0) none (some ((.tup [(.agg [(i (W (Int.tdiv t12.x t13))),(i (W (Int.tdiv t12.y t13))),(i (W (Int.tdiv t12.z t13))),(i (W (Int.tdiv t10 t13)))]),(b true)]),[]))))))) none))
noncomputable def Pa9 (x:Tp):Pt×Bool:=J9 (two r1X r1B) (Pa8 x)
noncomputable def Qa0 (x:Tp):Bool:=okO (two r1X r1B) (Pa8 x)
noncomputable def lc0:Sum:=ea8 (O8 tY) (fun x=>.guard (Qa0 x) (.ret ((two r1X r1B).enc (Pa9 x),[])))
theorem Xc1:i6 prog G 171 lc0:=za3 (bd Ee7 Ic2) (two r1X r1B) (o:=Pa8) fun x=>s5 (by kernel_rfl)
structure Ca5 where
 la8:Int
 la9:Int
 ma0:Int
 gb0:Int
 i7:Int
 c8:Int
 i8:Int
 e8:Int
noncomputable def gc0:List (Nat×Sum):=[(102,kb0)]
theorem Yb2:l0 prog G gc0:=⟨tb7,trivial⟩
structure oa4 where
 bs0:Bool
noncomputable def oa5 {α:Type} (kk:oa4→α) (x:Ca5):α:=let t1:=(ma7 (⟨(⟨x.la8,x.la9,x.ma0⟩:V3),x.gb0⟩:Pln) (⟨x.i7,x.c8,x.i8,x.e8⟩:Pt));(kk ⟨(decide (t1 < 0))⟩)
noncomputable def Ua0 (x:Ca5):oa4:=oa5 (fun r=>r) x
noncomputable def Ma1 (x:Ca5) (r:oa4):DT (b7×List b8):=.ret ((b r.bs0),[⟨0,4,[[(i x.i7),(i x.c8),(i x.i8),(i x.e8)]],true,false,0⟩])
theorem nc5 {α β:Type} (F:α→β) (kk:oa4→α) (x:Ca5):F (oa5 kk x)=oa5 (fun r=>F (kk r)) x:=by unfold oa5;(repeat' apply n7 (f:=F))<;>rfl
noncomputable def xb2:Sum:=bb3 ⟨[(.agg [(.o (.int .i64)),(.o (.int .i64)),(.o (.int .i64)),(.o (.int .i64))]),(.s (.o (.ptr 0 0 0 0)))],[⟨0,4,true,(some [[(.o (.int .i64)),(.o (.int .i64)),(.o (.int .i64)),(.o (.int .i64))]])⟩],fun a H=>(⟨(toI (slT (cellsOf (slT a 0)) 0)),(toI (slT (cellsOf (slT a 0)) 1)),(toI (slT (cellsOf (slT a 0)) 2)),(toI (slT (cellsOf (slT a 0)) 3)),(toI (slT (rwT (elT H 0) 0) 0)),(toI (slT (rwT (elT H 0) 0) 1)),(toI (slT (rwT (elT H 0) 0) 2)),(toI (slT (rwT (elT H 0) 0) 3))⟩,())⟩ (fun x=>Ma1 x (Ua0 x))
theorem gc1:i6 prog G 181 xb2:=P6 (enc:=fun x=>⟨[(.agg [(i x.la8),(i x.la9),(i x.ma0),(i x.gb0)]),(.ptr 0 0 0 0)],[⟨0,4,[[(i x.i7),(i x.c8),(i x.i8),(i x.e8)]],true,false,0⟩]⟩) (fun a H=>by kernel_rfl) (bd Fe5 Yb2) fun x=>s5 (Eq.trans (b:=oa5 (fun r=>(Ma1 x r).run) x) (by kernel_rfl) (nc5 (fun r=>(Ma1 x r).run) (fun r=>r) x).symm)
structure P7 where
 c9:List Pln
 i7:Int
 c8:Int
 i8:Int
 e8:Int
noncomputable def ua2:List (Nat×Sum):=[(181,xb2)]
theorem Xa7:l0 prog G ua2:=⟨gc1,trivial⟩
structure F7 where
 c9:List Pln
 is7:Int
 i7:Int
 c8:Int
 i8:Int
 e8:Int
structure o0 where
 is8:Int
noncomputable def Ua1 (p:F7) (s:o0):St:=⟨((eL tP p.c9)::((.fn 181 [(.ptr 0 0 0 0)])::(ra 5 ((i p.is7)::((i s.is8)::(ra 10 [])))))),[⟨0,4,[[(i p.i7),(i p.c8),(i p.i8),(i p.e8)]],true,false,0⟩]⟩
noncomputable def B4 {α:Type} (k:o0→α) (e:Nat→α) (z:α) (p:F7) (s:o0):α:=let t1:=(Ua0 ⟨(gL tP p.c9 s.is8.toNat).n.x,(gL tP p.c9 s.is8.toNat).n.y,(gL tP p.c9 s.is8.toNat).n.z,(gL tP p.c9 s.is8.toNat).b,p.i7,p.c8,p.i8,p.e8⟩);(sl (decide (s.is8 < p.is7)) (sl (inB s.is8 (List.length p.c9)) (sl t1.bs0 (e 1) (k ⟨(W (s.is8+1))⟩)) z) (e 2))
noncomputable def D7 (p:F7) (s:o0):Stp o0:=B4 .next .exit .fail p s
noncomputable def Y6:Lo F7 o0:=⟨En ua2,1,zd8,[1,0,1,4,4],[0,1,7,8],.p,[⟨((.s (.c 4 (nL tP)))::((.fn 181 [(.o (.ptr 0 0 0 0))])::(ru2 5 ((.s (.o (.int .i64)))::((.s (.o (.int .i64)))::(ru2 10 [])))))),[⟨0,4,true,(some [[(.o (.int .i64)),(.o (.int .i64)),(.o (.int .i64)),(.o (.int .i64))]])⟩],fun a H=>(⟨(rL tP (slT a 0)),(toI (slT a 7)),(toI (slT (rwT (elT H 0) 0) 0)),(toI (slT (rwT (elT H 0) 0) 1)),(toI (slT (rwT (elT H 0) 0) 2)),(toI (slT (rwT (elT H 0) 0) 3))⟩,⟨(toI (slT a 8))⟩)⟩],D7,[(none,fun p s=>⟨[(i s.is8)],[⟨0,4,[[(i p.i7),(i p.c8),(i p.i8),(i p.e8)]],true,false,0⟩]⟩),(some 0,fun p s=>⟨((eL tP p.c9)::((.fn 181 [(.ptr 0 0 0 0)])::(ra 5 ((i p.is7)::((i s.is8)::((b (decide (s.is8 < p.is7)))::(ra 9 []))))))),[⟨0,4,[[(i p.i7),(i p.c8),(i p.i8),(i p.e8)]],true,false,0⟩]⟩)],Ua1⟩
theorem Ua2:Y6.Ok:=Lo.ok [] (by kernel_rfl) .nil rfl (.cons (fun a H=>by kernel_rfl) .nil) fun p s=>(.of @B4 (fun F _ _ _ _ _=>by unfold B4;(repeat' apply n7 (f:=F))<;>rfl) (by kernel_rfl))
structure P8 where
 alt:Nat
 is0:Int
noncomputable def C3 {α:Type} (kk:P8→α) (x:P7):α:=let t1:=(lp (D7 (⟨(rt tP x.c9),(↑(List.length x.c9):Int),x.i7,x.c8,x.i8,x.e8⟩:F7)) (⟨0⟩:o0));(sl ((cnE tP x.c9)&&true) (sl (Nat.beq t1.1 1) (kk ⟨1,t1.2.is8⟩) (sl (Nat.beq t1.1 2) (kk ⟨1,(-1)⟩) (kk ⟨0,0⟩))) (kk ⟨0,0⟩))
noncomputable def P9 (x:P7):P8:=C3 (fun r=>r) x
noncomputable def ba5 (x:P7) (r:P8):DT (b7×List b8):=(.ite (Nat.beq r.alt 1) (.ret ((i r.is0),[⟨0,4,[[(i x.i7),(i x.c8),(i x.i8),(i x.e8)]],true,false,0⟩])) .fail)
theorem gb1 {α β:Type} (F:α→β) (kk:P8→α) (x:P7):F (C3 kk x)=C3 (fun r=>F (kk r)) x:=by unfold C3;(repeat' apply n7 (f:=F))<;>rfl
noncomputable def ya2:Sum:=bb3 ⟨[(.s (.c 4 (nL tP))),(.fn 181 [(.o (.ptr 0 0 0 0))])],[⟨0,4,true,(some [[(.o (.int .i64)),(.o (.int .i64)),(.o (.int .i64)),(.o (.int .i64))]])⟩],fun a H=>(⟨(rL tP (slT a 0)),(toI (slT (rwT (elT H 0) 0) 0)),(toI (slT (rwT (elT H 0) 0) 1)),(toI (slT (rwT (elT H 0) 0) 2)),(toI (slT (rwT (elT H 0) 0) 3))⟩,())⟩ (fun x=>ba5 x (P9 x))
theorem db2:i6 prog G 163 ya2:=P6 (enc:=fun x=>⟨[(eL tP x.c9),(.fn 181 [(.ptr 0 0 0 0)])],[⟨0,4,[[(i x.i7),(i x.c8),(i x.i8),(i x.e8)]],true,false,0⟩]⟩) (fun a H=>by kernel_rfl) (bd le8 Xa7) fun x=>za4 (.s .p (.s (.s .p (.b (.u Y6.ls))) .p)) [Y6.pr] (by kernel_rfl) (.cons Ua2 .nil) (Eq.trans (b:=C3 (fun r=>(ba5 x r).run) x) (by kernel_rfl) (gb1 (fun r=>(ba5 x r).run) (fun r=>r) x).symm)
structure K4 where
 c9:List Pln
 i7:Int
 c8:Int
 i8:Int
 e8:Int
noncomputable def Qa1:List (Nat×Sum):=[(163,ya2)]
theorem Ma2:l0 prog G Qa1:=⟨db2,trivial⟩
structure K5 where
 alt:Nat
 bs0:Bool
noncomputable def y9 {α:Type} (kk:K5→α) (x:K4):α:=let t1:=(P9 ⟨(rt tP x.c9),x.i7,x.c8,x.i8,x.e8⟩);(sl ((cnE tP x.c9)&&true) (sl (Nat.beq t1.alt 1) (kk ⟨1,(decide (t1.is0≥0))⟩) (kk ⟨0,false⟩)) (kk ⟨0,false⟩))
noncomputable def W7 (x:K4):K5:=y9 (fun r=>r) x
noncomputable def U4 (x:K4) (r:K5):DT (b7×List b8):=(.ite (Nat.beq r.alt 1) (.ret ((b r.bs0),[⟨0,4,[[(i x.i7),(i x.c8),(i x.i8),(i x.e8)]],true,false,0⟩])) .fail)
theorem Ua3 {α β:Type} (F:α→β) (kk:K5→α) (x:K4):F (y9 kk x)=y9 (fun r=>F (kk r)) x:=by unfold y9;(repeat' apply n7 (f:=F))<;>rfl
noncomputable def oa6:Sum:=bb3 ⟨[(.s (.c 4 (nL tP))),(.fn 181 [(.o (.ptr 0 0 0 0))])],[⟨0,4,true,(some [[(.o (.int .i64)),(.o (.int .i64)),(.o (.int .i64)),(.o (.int .i64))]])⟩],fun a H=>(⟨(rL tP (slT a 0)),(toI (slT (rwT (elT H 0) 0) 0)),(toI (slT (rwT (elT H 0) 0) 1)),(toI (slT (rwT (elT H 0) 0) 2)),(toI (slT (rwT (elT H 0) 0) 3))⟩,())⟩ (fun x=>U4 x (W7 x))
theorem Qa2:i6 prog G 83 oa6:=P6 (enc:=fun x=>⟨[(eL tP x.c9),(.fn 181 [(.ptr 0 0 0 0)])],[⟨0,4,[[(i x.i7),(i x.c8),(i x.i8),(i x.e8)]],true,false,0⟩]⟩) (fun a H=>by kernel_rfl) (bd b83 Ma2) fun x=>s5 (Eq.trans (b:=y9 (fun r=>(U4 x r).run) x) (by kernel_rfl) (Ua3 (fun r=>(U4 x r).run) (fun r=>r) x).symm)
noncomputable def yc7:List (Nat×Sum):=[(83,oa6)]
theorem nc6:l0 prog G yc7:=⟨Qa2,trivial⟩
noncomputable def Aa8 (x:List Pln) (y:Pt):Option (b7×List b8):=let t1:=(W7 ⟨(rt tP x),y.px,y.py,y.pz,y.pw⟩);(sl ((cnE tP x)&&true) (sl (Nat.beq t1.alt 1) (some ((b (!t1.bs0)),[])) none) none)
noncomputable def T3 (x:List Pln) (y:Pt):Bool:=J9 (one r1B) (Aa8 x y)
noncomputable def T4 (x:List Pln) (y:Pt):Bool:=okO (one r1B) (Aa8 x y)
noncomputable def Na9:Sum:=ia7 (W6 tP) (O8 tX) (fun x y=>.guard (T4 x y) (.ret ((one r1B).enc (T3 x y),[])))
theorem db3:i6 prog G 108 Na9:=bb2 (bd Ce6 nc6) (one r1B) (o:=Aa8) fun x y=>s5 (by kernel_rfl)
noncomputable def Aa9:List (Nat×Sum):=[]
theorem gb2:l0 prog G Aa9:=trivial
@[reducible] noncomputable def Fa2:Sum:=k9 (En Aa9) ge6
theorem lb7:i6 prog G 217 Fa2:=bd Ge5 gb2
noncomputable def Ha4:List (Nat×Sum):=[(217,Fa2)]
theorem pb7:l0 prog G Ha4:=⟨lb7,trivial⟩
@[reducible] noncomputable def La1:Sum:=k9 (En Ha4) fe9
theorem ub2:i6 prog G 170 La1:=bd Ee6 pb7
noncomputable def Y7:List (Nat×Sum):=[(171,lc0),(108,Na9),(170,La1)]
theorem pb8:l0 prog G Y7:=⟨Xc1,db3,ub2,trivial⟩
structure i9 where
 is3:Int
 N1:List Pln
 La0:Int
 S7:Int
 cc5:Nat
 Za3:Nat→List b7
 da0:Int
 ma1:Int
 wd8:Nat
 Wa6:Nat→List b7
 bd6:Int
 b9:List Pln
 G7:Int
 G8:Int
 G9:Int
 H4:Int
 aa4:Int
 aa5:Int
 aa6:Int
 Za4:Int
 ma2:List Pln
structure j6 where
 ph:Nat
 qa0:Int
 Oa5:Nat
 eh6:List (List b7)
 eh7:List (List b7)
noncomputable def gb3 (p:i9) (s:j6):St:=⟨(.unk::((.ptr 0 0 0 0)::(.unk::((i p.is3)::((.ptr 1 0 0 0)::(.unk::((.ptr 2 0 0 0)::(.unk::(.unk::((eL tP p.N1)::((i p.La0)::((i p.S7)::(ra 7 ((.tree 4 p.cc5 p.Za3)::((i p.da0)::((i p.ma1)::(ra 9 ((.tree 4 p.wd8 p.Wa6)::((i p.bd6)::((i s.qa0)::(ra 13 ((i 0)::(.unk::((.ptr 3 0 0 0)::((.v (.slice none 0 0))::((.ptr 4 0 0 0)::((.ptr 5 0 0 0)::(ra 31 [])))))))))))))))))))))))))))),[⟨0,1,[[(eL tP p.b9)]],true,false,0⟩,⟨0,4,[[(i p.G7),(i p.G8),(i p.G9),(i p.H4)]],true,false,0⟩,⟨0,4,[[(i p.aa4),(i p.aa5),(i p.aa6),(i p.Za4)]],true,false,0⟩,⟨0,1,[[(eL tP p.ma2)]],true,false,0⟩,⟨0,0,[[(.v (.slice none 0 0))]],true,false,0⟩,⟨0,0,[[(.ptr 6 0 0 0)]],true,false,0⟩,⟨174,0,[],true,false,0⟩]⟩
noncomputable def gb4 (p:i9) (s:j6):St:=⟨(.unk::((.ptr 0 0 0 0)::(.unk::((i p.is3)::((.ptr 1 0 0 0)::(.unk::((.ptr 2 0 0 0)::(.unk::(.unk::((eL tP p.N1)::((i p.La0)::((i p.S7)::(ra 7 ((.tree 4 p.cc5 p.Za3)::((i p.da0)::((i p.ma1)::(ra 9 ((.tree 4 p.wd8 p.Wa6)::((i p.bd6)::((i s.qa0)::(ra 13 ((i 0)::(.unk::((.ptr 3 0 0 0)::((.v (.slice none 0 0))::((.ptr 4 0 0 0)::((.ptr 5 0 0 0)::(ra 31 [])))))))))))))))))))))))))))),[⟨0,1,[[(eL tP p.b9)]],true,false,0⟩,⟨0,4,[[(i p.G7),(i p.G8),(i p.G9),(i p.H4)]],true,false,0⟩,⟨0,4,[[(i p.aa4),(i p.aa5),(i p.aa6),(i p.Za4)]],true,false,0⟩,⟨0,1,[[(eL tP p.ma2)]],true,false,0⟩,⟨0,0,[[(.sl 6 0 s.Oa5 0)]],true,false,0⟩,⟨0,0,[[(.ptr 7 0 0 0)]],true,false,0⟩,⟨54,4,s.eh6,true,false,0⟩,⟨174,0,s.eh7,true,false,0⟩]⟩
noncomputable def lb8 (p:i9) (s:j6):St:=(sel (Nat.beq s.ph 1) (gb4 p s) (gb3 p s))
noncomputable def w5 {α:Type} (k:j6→α) (e:Nat→α) (z:α) (p:i9) (s:j6):α:=let t1:=(Pa9 (⟨(⟨(⟨p.G7,p.G8,p.G9⟩:V3),p.H4⟩:Pln),(⟨(⟨p.aa4,p.aa5,p.aa6⟩:V3),p.Za4⟩:Pln),(⟨(⟨(toI (hdA (p.Wa6 s.qa0.toNat))),(toI (hdA (tlA (p.Wa6 s.qa0.toNat)))),(toI (hdA (tlA (tlA (p.Wa6 s.qa0.toNat)))))⟩:V3),(toI (hdA (tlA (tlA (tlA (p.Wa6 s.qa0.toNat))))))⟩:Pln)⟩:Tp));let t2:=(T3 (rt tP p.ma2) t1.1);(sl (decide (s.qa0 < p.bd6)) (sl (inB s.qa0 p.wd8) (sl ((Nat.ble 4 (len (p.Wa6 s.qa0.toNat)))&&(J4 [(CK.int .i64),(CK.int .i64),(CK.int .i64),(CK.int .i64)] (p.Wa6 s.qa0.toNat))) (sl (Qa0 (⟨(⟨(⟨p.G7,p.G8,p.G9⟩:V3),p.H4⟩:Pln),(⟨(⟨p.aa4,p.aa5,p.aa6⟩:V3),p.Za4⟩:Pln),(⟨(⟨(toI (hdA (p.Wa6 s.qa0.toNat))),(toI (hdA (tlA (p.Wa6 s.qa0.toNat)))),(toI (hdA (tlA (tlA (p.Wa6 s.qa0.toNat)))))⟩:V3),(toI (hdA (tlA (tlA (tlA (p.Wa6 s.qa0.toNat))))))⟩:Pln)⟩:Tp)) (sl t1.2 (sl (!(Tb4 4 [(0,(.int .i64)),(1,(.int .i64)),(2,(.int .i64)),(3,(.int .i64))] [(i t1.1.px),(i t1.1.py),(i t1.1.pz),(i t1.1.pw)] [])) (sl (okE tP p.ma2) (sl (T4 (rt tP p.ma2) t1.1) (sl t2 (k ⟨1,(W (s.qa0+1)),1,[[(i t1.1.px),(i t1.1.py),(i t1.1.pz),(i t1.1.pw)]],(kb5 [(0,(.int .i64)),(1,(.int .i64)),(2,(.int .i64)),(3,(.int .i64))] [(i t1.1.px),(i t1.1.py),(i t1.1.pz),(i t1.1.pw)] [(i t1.1.px),(i t1.1.py),(i t1.1.pz),(i t1.1.pw),(b true)] [])⟩) (k ⟨0,(W (s.qa0+1)),0,[],[]⟩)) z) z) (k ⟨0,(W (s.qa0+1)),0,[],[]⟩)) (k ⟨0,(W (s.qa0+1)),0,[],[]⟩)) z) z) z) (e 1))
noncomputable def w6 {α:Type} (k:j6→α) (e:Nat→α) (z:α) (p:i9) (s:j6):α:=let t1:=(Pa9 (⟨(⟨(⟨p.G7,p.G8,p.G9⟩:V3),p.H4⟩:Pln),(⟨(⟨p.aa4,p.aa5,p.aa6⟩:V3),p.Za4⟩:Pln),(⟨(⟨(toI (hdA (p.Wa6 s.qa0.toNat))),(toI (hdA (tlA (p.Wa6 s.qa0.toNat)))),(toI (hdA (tlA (tlA (p.Wa6 s.qa0.toNat)))))⟩:V3),(toI (hdA (tlA (tlA (tlA (p.Wa6 s.qa0.toNat))))))⟩:Pln)⟩:Tp));let t2:=(T3 (rt tP p.ma2) t1.1);(sl (decide (s.qa0 < p.bd6)) (sl (inB s.qa0 p.wd8) (sl ((Nat.ble 4 (len (p.Wa6 s.qa0.toNat)))&&(J4 [(CK.int .i64),(CK.int .i64),(CK.int .i64),(CK.int .i64)] (p.Wa6 s.qa0.toNat))) (sl (Qa0 (⟨(⟨(⟨p.G7,p.G8,p.G9⟩:V3),p.H4⟩:Pln),(⟨(⟨p.aa4,p.aa5,p.aa6⟩:V3),p.Za4⟩:Pln),(⟨(⟨(toI (hdA (p.Wa6 s.qa0.toNat))),(toI (hdA (tlA (p.Wa6 s.qa0.toNat)))),(toI (hdA (tlA (tlA (p.Wa6 s.qa0.toNat)))))⟩:V3),(toI (hdA (tlA (tlA (tlA (p.Wa6 s.qa0.toNat))))))⟩:Pln)⟩:Tp)) (sl t1.2 (sl (!(Tb4 4 [(0,(.int .i64)),(1,(.int .i64)),(2,(.int .i64)),(3,(.int .i64))] [(i t1.1.px),(i t1.1.py),(i t1.1.pz),(i t1.1.pw)] s.eh7)) (sl (okE tP p.ma2) (sl (T4 (rt tP p.ma2) t1.1) (sl t2 (sl (Nat.beq s.Oa5 (len s.eh6)&&Nat.ble ((s.Oa5+1)*32) room) (k ⟨1,(W (s.qa0+1)),(s.Oa5+1),(app s.eh6 [[(i t1.1.px),(i t1.1.py),(i t1.1.pz),(i t1.1.pw)]]),(kb5 [(0,(.int .i64)),(1,(.int .i64)),(2,(.int .i64)),(3,(.int .i64))] [(i t1.1.px),(i t1.1.py),(i t1.1.pz),(i t1.1.pw)] [(i t1.1.px),(i t1.1.py),(i t1.1.pz),(i t1.1.pw),(b true)] s.eh7)⟩) z) (k ⟨1,(W (s.qa0+1)),s.Oa5,s.eh6,s.eh7⟩)) z) z) (k ⟨1,(W (s.qa0+1)),s.Oa5,s.eh6,s.eh7⟩)) (k ⟨1,(W (s.qa0+1)),s.Oa5,s.eh6,s.eh7⟩)) z) z) z) (e 2))
noncomputable def s6 (p:i9) (s:j6):Stp j6:=(sel (Nat.beq s.ph 1) (w6 .next .exit .fail p s) (w5 .next .exit .fail p s))
noncomputable def ja9:Lo i9 j6:=⟨En Y7,0,Yd5,[1,1,1,0,1,4,4,1,4,4,1,1,0,4,1,1,4,4,1,1,0,4,1,1,4,4],[1,3,4,6,9,10,11,19,20,21,31,32,33,47,49,50,51,52],.p,[⟨((.s (.o .unk))::((.s (.o (.ptr 0 0 0 0)))::((.s (.o .unk))::((.s (.o (.int .i64)))::((.s (.o (.ptr 1 0 0 0)))::((.s (.o .unk))::((.s (.o (.ptr 2 0 0 0)))::((.s (.o .unk))::((.s (.o .unk))::((.s (.c 4 (nL tP)))::((.s (.o (.int .i64)))::((.s (.o (.int .i64)))::(ru2 7 ((.s (.o (.tree 4)))::((.s (.o (.int .i64)))::((.s (.o (.int .i64)))::(ru2 9 ((.s (.o (.tree 4)))::((.s (.o (.int .i64)))::((.s (.o (.int .i64)))::(ru2 13 ((.s (.o (.lit .i64 0)))::((.s (.o .unk))::((.s (.o (.ptr 3 0 0 0)))::((.s (.o .nil))::((.s (.o (.ptr 4 0 0 0)))::((.s (.o (.ptr 5 0 0 0)))::(ru2 31 [])))))))))))))))))))))))))))),[⟨0,1,true,(some [[(.c 4 (nL tP))]])⟩,⟨0,4,true,(some [[(.o (.int .i64)),(.o (.int .i64)),(.o (.int .i64)),(.o (.int .i64))]])⟩,⟨0,4,true,(some [[(.o (.int .i64)),(.o (.int .i64)),(.o (.int .i64)),(.o (.int .i64))]])⟩,⟨0,1,true,(some [[(.c 4 (nL tP))]])⟩,⟨0,0,true,(some [[(.o .nil)]])⟩,⟨0,0,true,(some [[(.o (.ptr 6 0 0 0))]])⟩,⟨174,0,true,(some [])⟩],fun a H=>(⟨(toI (slT a 3)),(rL tP (slT a 9)),(toI (slT a 10)),(toI (slT a 11)),(toN (slT a 19)),(toG (slT a 19)),(toI (slT a 20)),(toI (slT a 21)),(toN (slT a 31)),(toG (slT a 31)),(toI (slT a 32)),(rL tP (slT (rwT (elT H 0) 0) 0)),(toI (slT (rwT (elT H 1) 0) 0)),(toI (slT (rwT (elT H 1) 0) 1)),(toI (slT (rwT (elT H 1) 0) 2)),(toI (slT (rwT (elT H 1) 0) 3)),(toI (slT (rwT (elT H 2) 0) 0)),(toI (slT (rwT (elT H 2) 0) 1)),(toI (slT (rwT (elT H 2) 0) 2)),(toI (slT (rwT (elT H 2) 0) 3)),(rL tP (slT (rwT (elT H 3) 0) 0))⟩,⟨0,(toI (slT a 33)),0,[],[]⟩)⟩,⟨((.s (.o .unk))::((.s (.o (.ptr 0 0 0 0)))::((.s (.o .unk))::((.s (.o (.int .i64)))::((.s (.o (.ptr 1 0 0 0)))::((.s (.o .unk))::((.s (.o (.ptr 2 0 0 0)))::((.s (.o .unk))::((.s (.o .unk))::((.s (.c 4 (nL tP)))::((.s (.o (.int .i64)))::((.s (.o (.int .i64)))::(ru2 7 ((.s (.o (.tree 4)))::((.s (.o (.int .i64)))::((.s (.o (.int .i64)))::(ru2 9 ((.s (.o (.tree 4)))::((.s (.o (.int .i64)))::((.s (.o (.int .i64)))::(ru2 13 ((.s (.o (.lit .i64 0)))::((.s (.o .unk))::((.s (.o (.ptr 3 0 0 0)))::((.s (.o .nil))::((.s (.o (.ptr 4 0 0 0)))::((.s (.o (.ptr 5 0 0 0)))::(ru2 31 [])))))))))))))))))))))))))))),[⟨0,1,true,(some [[(.c 4 (nL tP))]])⟩,⟨0,4,true,(some [[(.o (.int .i64)),(.o (.int .i64)),(.o (.int .i64)),(.o (.int .i64))]])⟩,⟨0,4,true,(some [[(.o (.int .i64)),(.o (.int .i64)),(.o (.int .i64)),(.o (.int .i64))]])⟩,⟨0,1,true,(some [[(.c 4 (nL tP))]])⟩,⟨0,0,true,(some [[(.o (.sl 6 0 (some 0) none))]])⟩,⟨0,0,true,(some [[(.o (.ptr 7 0 0 0))]])⟩,⟨54,4,true,none⟩,⟨174,0,true,none⟩],fun a H=>(⟨(toI (slT a 3)),(rL tP (slT a 9)),(toI (slT a 10)),(toI (slT a 11)),(toN (slT a 19)),(toG (slT a 19)),(toI (slT a 20)),(toI (slT a 21)),(toN (slT a 31)),(toG (slT a 31)),(toI (slT a 32)),(rL tP (slT (rwT (elT H 0) 0) 0)),(toI (slT (rwT (elT H 1) 0) 0)),(toI (slT (rwT (elT H 1) 0) 1)),(toI (slT (rwT (elT H 1) 0) 2)),(toI (slT (rwT (elT H 1) 0) 3)),(toI (slT (rwT (elT H 2) 0) 0)),(toI (slT (rwT (elT H 2) 0) 1)),(toI (slT (rwT (elT H 2) 0) 2)),(toI (slT (rwT (elT H 2) 0) 3)),(rL tP (slT (rwT (elT H 3) 0) 0))⟩,⟨1,(toI (slT a 33)),(slN (slT (rwT (elT H 4) 0) 0)),(elT H 6),(elT H 7)⟩)⟩],s6,[(some 4,fun p s=>⟨(.unk::((.ptr 0 0 0 0)::(.unk::((i p.is3)::((.ptr 1 0 0 0)::(.unk::((.ptr 2 0 0 0)::(.unk::(.unk::((eL tP p.N1)::((i p.La0)::((i p.S7)::(ra 7 ((.tree 4 p.cc5 p.Za3)::((i p.da0)::((i p.ma1)::(ra 9 ((.tree 4 p.wd8 p.Wa6)::((i p.bd6)::((i s.qa0)::((b (decide (s.qa0 < p.bd6)))::(ra 12 ((i 0)::(.unk::((.ptr 3 0 0 0)::((.v (.slice none 0 0))::((.ptr 4 0 0 0)::((.ptr 5 0 0 0)::(ra 31 []))))))))))))))))))))))))))))),[⟨0,1,[[(eL tP p.b9)]],true,false,0⟩,⟨0,4,[[(i p.G7),(i p.G8),(i p.G9),(i p.H4)]],true,false,0⟩,⟨0,4,[[(i p.aa4),(i p.aa5),(i p.aa6),(i p.Za4)]],true,false,0⟩,⟨0,1,[[(eL tP p.ma2)]],true,false,0⟩,⟨0,0,[[(.v (.slice none 0 0))]],true,false,0⟩,⟨0,0,[[(.ptr 6 0 0 0)]],true,false,0⟩,⟨174,0,[],true,false,0⟩]⟩),(some 4,fun p s=>⟨(.unk::((.ptr 0 0 0 0)::(.unk::((i p.is3)::((.ptr 1 0 0 0)::(.unk::((.ptr 2 0 0 0)::(.unk::(.unk::((eL tP p.N1)::((i p.La0)::((i p.S7)::(ra 7 ((.tree 4 p.cc5 p.Za3)::((i p.da0)::((i p.ma1)::(ra 9 ((.tree 4 p.wd8 p.Wa6)::((i p.bd6)::((i s.qa0)::((b (decide (s.qa0 < p.bd6)))::(ra 12 ((i 0)::(.unk::((.ptr 3 0 0 0)::((.v (.slice none 0 0))::((.ptr 4 0 0 0)::((.ptr 5 0 0 0)::(ra 31 []))))))))))))))))))))))))))))),[⟨0,1,[[(eL tP p.b9)]],true,false,0⟩,⟨0,4,[[(i p.G7),(i p.G8),(i p.G9),(i p.H4)]],true,false,0⟩,⟨0,4,[[(i p.aa4),(i p.aa5),(i p.aa6),(i p.Za4)]],true,false,0⟩,⟨0,1,[[(eL tP p.ma2)]],true,false,0⟩,⟨0,0,[[(.sl 6 0 s.Oa5 0)]],true,false,0⟩,⟨0,0,[[(.ptr 7 0 0 0)]],true,false,0⟩,⟨54,4,s.eh6,true,false,0⟩,⟨174,0,s.eh7,true,false,0⟩]⟩)],lb8⟩
theorem lb9:ja9.OkM:=Lo.okM [] (by kernel_rfl) .nil rfl (.cons (fun a H=>by kernel_rfl) (.cons (fun a H=>by kernel_rfl) .nil)) fun p s=>(.sel (Nat.beq s.ph 1) (.of @w6 (fun F _ _ _ _ _=>by unfold w6;(repeat' apply n7 (f:=F))<;>rfl) (by kernel_rfl)) (.of @w5 (fun F _ _ _ _ _=>by unfold w5;(repeat' apply n7 (f:=F))<;>rfl) (by kernel_rfl)))
structure j7 where
 is3:Int
 La0:Int
 S7:Int
 cc5:Nat
 Za3:Nat→List b7
 da0:Int
 G7:Int
 G8:Int
 G9:Int
 H4:Int
structure j9 where
 ph:Nat
 N1:List Pln
 ma1:Int
 b9:List Pln
 O7:List Pln
 cc6:Nat
 eh5:List (List b7)
 eh6:List (List b7)
noncomputable def gb5 (p:j7) (s:j9):St:=⟨(.unk::((.ptr 0 0 0 0)::(.unk::((i p.is3)::((.ptr 1 0 0 0)::(ra 4 ((eL tP s.N1)::((i p.La0)::((i p.S7)::(ra 7 ((.tree 4 p.cc5 p.Za3)::((i p.da0)::((i s.ma1)::(ra 25 ((i 0)::(.unk::((.ptr 2 0 0 0)::((.v (.slice none 0 0))::((.ptr 3 0 0 0)::((.ptr 4 0 0 0)::(ra 31 []))))))))))))))))))))),[⟨0,1,[[(eL tP s.b9)]],true,false,0⟩,⟨0,4,[[(i p.G7),(i p.G8),(i p.G9),(i p.H4)]],true,false,0⟩,⟨0,1,[[(eL tP s.O7)]],true,false,0⟩,⟨0,0,[[(.v (.slice none 0 0))]],true,false,0⟩,⟨0,0,[[(.ptr 5 0 0 0)]],true,false,0⟩,⟨174,0,[],true,false,0⟩]⟩
noncomputable def gb6 (p:j7) (s:j9):St:=⟨(.unk::((.ptr 0 0 0 0)::(.unk::((i p.is3)::((.ptr 1 0 0 0)::(ra 4 ((eL tP s.N1)::((i p.La0)::((i p.S7)::(ra 7 ((.tree 4 p.cc5 p.Za3)::((i p.da0)::((i s.ma1)::(ra 25 ((i 0)::(.unk::((.ptr 2 0 0 0)::((.v (.slice none 0 0))::((.ptr 3 0 0 0)::((.ptr 4 0 0 0)::(ra 31 []))))))))))))))))))))),[⟨0,1,[[(eL tP s.b9)]],true,false,0⟩,⟨0,4,[[(i p.G7),(i p.G8),(i p.G9),(i p.H4)]],true,false,0⟩,⟨0,1,[[(eL tP s.O7)]],true,false,0⟩,⟨0,0,[[(.sl 5 0 s.cc6 0)]],true,false,0⟩,⟨0,0,[[(.ptr 6 0 0 0)]],true,false,0⟩,⟨54,4,s.eh5,true,false,0⟩,⟨174,0,s.eh6,true,false,0⟩]⟩
noncomputable def mb0 (p:j7) (s:j9):St:=(sel (Nat.beq s.ph 1) (gb6 p s) (gb5 p s))
noncomputable def w7 {α:Type} (k:j9→α) (e:Nat→α) (z:α) (p:j7) (s:j9):α:=let t1:=(lp (s6 (⟨p.is3,(rt tP s.N1),p.La0,p.S7,p.cc5,p.Za3,p.da0,s.ma1,((List.length s.b9) - (W ((W (p.is3+s.ma1))+2)).toNat),(fun k=>(fun k=>(tP).row (gL tP s.b9 k)) ((W ((W (p.is3+s.ma1))+2)).toNat+k)),(↑((List.length s.b9) - (W ((W (p.is3+s.ma1))+2)).toNat):Int),(rt tP s.b9),p.G7,p.G8,p.G9,p.H4,(toI (hdA (p.Za3 s.ma1.toNat))),(toI (hdA (tlA (p.Za3 s.ma1.toNat)))),(toI (hdA (tlA (tlA (p.Za3 s.ma1.toNat))))),(toI (hdA (tlA (tlA (tlA (p.Za3 s.ma1.toNat)))))),(rt tP s.O7)⟩:i9)) (⟨0,0,0,[],[]⟩:j6));(sl (decide (s.ma1 < p.da0)) (sl (inB s.ma1 p.cc5) (sl ((Nat.ble 4 (len (p.Za3 s.ma1.toNat)))&&(J4 [(CK.int .i64),(CK.int .i64),(CK.int .i64),(CK.int .i64)] (p.Za3 s.ma1.toNat))) (sl (inB (W ((W (p.is3+s.ma1))+2)) ((List.length s.b9)+1)) (sl ((cnE tP s.N1)&&((cnE tP s.b9)&&((cnE tP s.O7)&&true))) (sl (Nat.beq t1.1 1) (k ⟨0,(rt tP s.N1),(W (s.ma1+1)),(rt tP s.b9),(rt tP s.O7),0,[],[]⟩) (sl (Nat.beq t1.1 2) (k ⟨1,(rt tP s.N1),(W (s.ma1+1)),(rt tP s.b9),(rt tP s.O7),t1.2.Oa5,t1.2.eh6,t1.2.eh7⟩) z)) z) z) z) z) (e 1))
noncomputable def w8 {α:Type} (k:j9→α) (e:Nat→α) (z:α) (p:j7) (s:j9):α:=let t1:=(lp (s6 (⟨p.is3,(rt tP s.N1),p.La0,p.S7,p.cc5,p.Za3,p.da0,s.ma1,((List.length s.b9) - (W ((W (p.is3+s.ma1))+2)).toNat),(fun k=>(fun k=>(tP).row (gL tP s.b9 k)) ((W ((W (p.is3+s.ma1))+2)).toNat+k)),(↑((List.length s.b9) - (W ((W (p.is3+s.ma1))+2)).toNat):Int),(rt tP s.b9),p.G7,p.G8,p.G9,p.H4,(toI (hdA (p.Za3 s.ma1.toNat))),(toI (hdA (tlA (p.Za3 s.ma1.toNat)))),(toI (hdA (tlA (tlA (p.Za3 s.ma1.toNat))))),(toI (hdA (tlA (tlA (tlA (p.Za3 s.ma1.toNat)))))),(rt tP s.O7)⟩:i9)) (⟨1,0,s.cc6,s.eh5,s.eh6⟩:j6));(sl (decide (s.ma1 < p.da0)) (sl (inB s.ma1 p.cc5) (sl ((Nat.ble 4 (len (p.Za3 s.ma1.toNat)))&&(J4 [(CK.int .i64),(CK.int .i64),(CK.int .i64),(CK.int .i64)] (p.Za3 s.ma1.toNat))) (sl (inB (W ((W (p.is3+s.ma1))+2)) ((List.length s.b9)+1)) (sl ((cnE tP s.N1)&&((cnE tP s.b9)&&((cnE tP s.O7)&&true))) (sl (Nat.beq t1.1 1) (k ⟨0,(rt tP s.N1),(W (s.ma1+1)),(rt tP s.b9),(rt tP s.O7),0,[],[]⟩) (sl (Nat.beq t1.1 2) (k ⟨1,(rt tP s.N1),(W (s.ma1+1)),(rt tP s.b9),(rt tP s.O7),t1.2.Oa5,t1.2.eh6,t1.2.eh7⟩) z)) z) z) z) z) (e 2))
noncomputable def s7 (p:j7) (s:j9):Stp j9:=(sel (Nat.beq s.ph 1) (w8 .next .exit .fail p s) (w7 .next .exit .fail p s))
noncomputable def ka0:Lo j7 j9:=⟨En Y7,0,Yd5,[1,1,1,0,1,4,4,1,4,4,1,1,0,4,1,1,4,4],[1,3,4,9,10,11,19,20,21,47,49,50,51,52],(.s .p (.s .p (.s (.b (.s .p (.s .p (.b (.u ja9.lsM))))) .p))),[⟨((.s (.o .unk))::((.s (.o (.ptr 0 0 0 0)))::((.s (.o .unk))::((.s (.o (.int .i64)))::((.s (.o (.ptr 1 0 0 0)))::(ru2 4 ((.s (.c 4 (nL tP)))::((.s (.o (.int .i64)))::((.s (.o (.int .i64)))::(ru2 7 ((.s (.o (.tree 4)))::((.s (.o (.int .i64)))::((.s (.o (.int .i64)))::(ru2 25 ((.s (.o (.lit .i64 0)))::((.s (.o .unk))::((.s (.o (.ptr 2 0 0 0)))::((.s (.o .nil))::((.s (.o (.ptr 3 0 0 0)))::((.s (.o (.ptr 4 0 0 0)))::(ru2 31 []))))))))))))))))))))),[⟨0,1,true,(some [[(.c 4 (nL tP))]])⟩,⟨0,4,true,(some [[(.o (.int .i64)),(.o (.int .i64)),(.o (.int .i64)),(.o (.int .i64))]])⟩,⟨0,1,true,(some [[(.c 4 (nL tP))]])⟩,⟨0,0,true,(some [[(.o .nil)]])⟩,⟨0,0,true,(some [[(.o (.ptr 5 0 0 0))]])⟩,⟨174,0,true,(some [])⟩],fun a H=>(⟨(toI (slT a 3)),(toI (slT a 10)),(toI (slT a 11)),(toN (slT a 19)),(toG (slT a 19)),(toI (slT a 20)),(toI (slT (rwT (elT H 1) 0) 0)),(toI (slT (rwT (elT H 1) 0) 1)),(toI (slT (rwT (elT H 1) 0) 2)),(toI (slT (rwT (elT H 1) 0) 3))⟩,⟨0,(rL tP (slT a 9)),(toI (slT a 21)),(rL tP (slT (rwT (elT H 0) 0) 0)),(rL tP (slT (rwT (elT H 2) 0) 0)),0,[],[]⟩)⟩,⟨((.s (.o .unk))::((.s (.o (.ptr 0 0 0 0)))::((.s (.o .unk))::((.s (.o (.int .i64)))::((.s (.o (.ptr 1 0 0 0)))::(ru2 4 ((.s (.c 4 (nL tP)))::((.s (.o (.int .i64)))::((.s (.o (.int .i64)))::(ru2 7 ((.s (.o (.tree 4)))::((.s (.o (.int .i64)))::((.s (.o (.int .i64)))::(ru2 25 ((.s (.o (.lit .i64 0)))::((.s (.o .unk))::((.s (.o (.ptr 2 0 0 0)))::((.s (.o .nil))::((.s (.o (.ptr 3 0 0 0)))::((.s (.o (.ptr 4 0 0 0)))::(ru2 31 []))))))))))))))))))))),[⟨0,1,true,(some [[(.c 4 (nL tP))]])⟩,⟨0,4,true,(some [[(.o (.int .i64)),(.o (.int .i64)),(.o (.int .i64)),(.o (.int .i64))]])⟩,⟨0,1,true,(some [[(.c 4 (nL tP))]])⟩,⟨0,0,true,(some [[(.o (.sl 5 0 (some 0) none))]])⟩,⟨0,0,true,(some [[(.o (.ptr 6 0 0 0))]])⟩,⟨54,4,true,none⟩,⟨174,0,true,none⟩],fun a H=>(⟨(toI (slT a 3)),(toI (slT a 10)),(toI (slT a 11)),(toN (slT a 19)),(toG (slT a 19)),(toI (slT a 20)),(toI (slT (rwT (elT H 1) 0) 0)),(toI (slT (rwT (elT H 1) 0) 1)),(toI (slT (rwT (elT H 1) 0) 2)),(toI (slT (rwT (elT H 1) 0) 3))⟩,⟨1,(rL tP (slT a 9)),(toI (slT a 21)),(rL tP (slT (rwT (elT H 0) 0) 0)),(rL tP (slT (rwT (elT H 2) 0) 0)),(slN (slT (rwT (elT H 3) 0) 0)),(elT H 5),(elT H 6)⟩)⟩],s7,[(some 2,fun p s=>⟨(.unk::((.ptr 0 0 0 0)::(.unk::((i p.is3)::((.ptr 1 0 0 0)::(ra 4 ((eL tP s.N1)::((i p.La0)::((i p.S7)::(ra 7 ((.tree 4 p.cc5 p.Za3)::((i p.da0)::((i s.ma1)::((b (decide (s.ma1 < p.da0)))::(ra 24 ((i 0)::(.unk::((.ptr 2 0 0 0)::((.v (.slice none 0 0))::((.ptr 3 0 0 0)::((.ptr 4 0 0 0)::(ra 31 [])))))))))))))))))))))),[⟨0,1,[[(eL tP s.b9)]],true,false,0⟩,⟨0,4,[[(i p.G7),(i p.G8),(i p.G9),(i p.H4)]],true,false,0⟩,⟨0,1,[[(eL tP s.O7)]],true,false,0⟩,⟨0,0,[[(.v (.slice none 0 0))]],true,false,0⟩,⟨0,0,[[(.ptr 5 0 0 0)]],true,false,0⟩,⟨174,0,[],true,false,0⟩]⟩),(some 2,fun p s=>⟨(.unk::((.ptr 0 0 0 0)::(.unk::((i p.is3)::((.ptr 1 0 0 0)::(ra 4 ((eL tP s.N1)::((i p.La0)::((i p.S7)::(ra 7 ((.tree 4 p.cc5 p.Za3)::((i p.da0)::((i s.ma1)::((b (decide (s.ma1 < p.da0)))::(ra 24 ((i 0)::(.unk::((.ptr 2 0 0 0)::((.v (.slice none 0 0))::((.ptr 3 0 0 0)::((.ptr 4 0 0 0)::(ra 31 [])))))))))))))))))))))),[⟨0,1,[[(eL tP s.b9)]],true,false,0⟩,⟨0,4,[[(i p.G7),(i p.G8),(i p.G9),(i p.H4)]],true,false,0⟩,⟨0,1,[[(eL tP s.O7)]],true,false,0⟩,⟨0,0,[[(.sl 5 0 s.cc6 0)]],true,false,0⟩,⟨0,0,[[(.ptr 6 0 0 0)]],true,false,0⟩,⟨54,4,s.eh5,true,false,0⟩,⟨174,0,s.eh6,true,false,0⟩]⟩)],mb0⟩
theorem mb1:ka0.OkM:=Lo.okM [ja9.prM] (by kernel_rfl) (.cons lb9 .nil) rfl (.cons (fun a H=>by kernel_rfl) (.cons (fun a H=>by kernel_rfl) .nil)) fun p s=>(.sel (Nat.beq s.ph 1) (.of @w8 (fun F _ _ _ _ _=>by unfold w8;(repeat' apply n7 (f:=F))<;>rfl) (by kernel_rfl)) (.of @w7 (fun F _ _ _ _ _=>by unfold w7;(repeat' apply n7 (f:=F))<;>rfl) (by kernel_rfl)))
structure p5 where
 La0:Int
structure l7 where
 ph:Nat
 N1:List Pln
 S7:Int
 b9:List Pln
 Fa6:List Pln
 sc0:Nat
 eh4:List (List b7)
 eh5:List (List b7)
noncomputable def gb7 (p:p5) (s:l7):St:=⟨(.unk::((.ptr 0 0 0 0)::(ra 7 ((eL tP s.N1)::((i p.La0)::((i s.S7)::(ra 35 ((i 0)::(.unk::((.ptr 1 0 0 0)::((.v (.slice none 0 0))::((.ptr 2 0 0 0)::((.ptr 3 0 0 0)::(ra 31 [])))))))))))))),[⟨0,1,[[(eL tP s.b9)]],true,false,0⟩,⟨0,1,[[(eL tP s.Fa6)]],true,false,0⟩,⟨0,0,[[(.v (.slice none 0 0))]],true,false,0⟩,⟨0,0,[[(.ptr 4 0 0 0)]],true,false,0⟩,⟨174,0,[],true,false,0⟩]⟩
noncomputable def gb8 (p:p5) (s:l7):St:=⟨(.unk::((.ptr 0 0 0 0)::(ra 7 ((eL tP s.N1)::((i p.La0)::((i s.S7)::(ra 35 ((i 0)::(.unk::((.ptr 1 0 0 0)::((.v (.slice none 0 0))::((.ptr 2 0 0 0)::((.ptr 3 0 0 0)::(ra 31 [])))))))))))))),[⟨0,1,[[(eL tP s.b9)]],true,false,0⟩,⟨0,1,[[(eL tP s.Fa6)]],true,false,0⟩,⟨0,0,[[(.sl 4 0 s.sc0 0)]],true,false,0⟩,⟨0,0,[[(.ptr 5 0 0 0)]],true,false,0⟩,⟨54,4,s.eh4,true,false,0⟩,⟨174,0,s.eh5,true,false,0⟩]⟩
noncomputable def mb2 (p:p5) (s:l7):St:=(sel (Nat.beq s.ph 1) (gb8 p s) (gb7 p s))
noncomputable def w9 {α:Type} (k:l7→α) (e:Nat→α) (z:α) (p:p5) (s:l7):α:=let t1:=(lp (s7 (⟨s.S7,p.La0,s.S7,((List.length s.b9) - (W (s.S7+1)).toNat),(fun k=>(fun k=>(tP).row (gL tP s.b9 k)) ((W (s.S7+1)).toNat+k)),(↑((List.length s.b9) - (W (s.S7+1)).toNat):Int),(gL tP s.N1 s.S7.toNat).n.x,(gL tP s.N1 s.S7.toNat).n.y,(gL tP s.N1 s.S7.toNat).n.z,(gL tP s.N1 s.S7.toNat).b⟩:j7)) (⟨0,(rt tP s.N1),0,(rt tP s.b9),(rt tP s.Fa6),0,[],[]⟩:j9));(sl (decide (s.S7 < p.La0)) (sl (inB s.S7 (List.length s.N1)) (sl (inB (W (s.S7+1)) ((List.length s.b9)+1)) (sl ((cnE tP s.N1)&&((cnE tP s.b9)&&((cnE tP s.Fa6)&&true))) (sl (Nat.beq t1.1 1) (k ⟨0,t1.2.N1,(W (s.S7+1)),t1.2.b9,t1.2.O7,0,[],[]⟩) (sl (Nat.beq t1.1 2) (k ⟨1,t1.2.N1,(W (s.S7+1)),t1.2.b9,t1.2.O7,t1.2.cc6,t1.2.eh5,t1.2.eh6⟩) z)) z) z) z) (e 1))
noncomputable def y5 {α:Type} (k:l7→α) (e:Nat→α) (z:α) (p:p5) (s:l7):α:=let t1:=(lp (s7 (⟨s.S7,p.La0,s.S7,((List.length s.b9) - (W (s.S7+1)).toNat),(fun k=>(fun k=>(tP).row (gL tP s.b9 k)) ((W (s.S7+1)).toNat+k)),(↑((List.length s.b9) - (W (s.S7+1)).toNat):Int),(gL tP s.N1 s.S7.toNat).n.x,(gL tP s.N1 s.S7.toNat).n.y,(gL tP s.N1 s.S7.toNat).n.z,(gL tP s.N1 s.S7.toNat).b⟩:j7)) (⟨1,(rt tP s.N1),0,(rt tP s.b9),(rt tP s.Fa6),s.sc0,s.eh4,s.eh5⟩:j9));(sl (decide (s.S7 < p.La0)) (sl (inB s.S7 (List.length s.N1)) (sl (inB (W (s.S7+1)) ((List.length s.b9)+1)) (sl ((cnE tP s.N1)&&((cnE tP s.b9)&&((cnE tP s.Fa6)&&true))) (sl (Nat.beq t1.1 1) (k ⟨0,t1.2.N1,(W (s.S7+1)),t1.2.b9,t1.2.O7,0,[],[]⟩) (sl (Nat.beq t1.1 2) (k ⟨1,t1.2.N1,(W (s.S7+1)),t1.2.b9,t1.2.O7,t1.2.cc6,t1.2.eh5,t1.2.eh6⟩) z)) z) z) z) (e 2))
noncomputable def s8 (p:p5) (s:l7):Stp l7:=(sel (Nat.beq s.ph 1) (y5 .next .exit .fail p s) (w9 .next .exit .fail p s))
noncomputable def ka1:Lo p5 l7:=⟨En Y7,0,Yd5,[1,1,1,0,1,4,4,1,4,4],[1,9,10,11,47,49,50,51,52],(.s .p (.s .p (.s (.b (.s .p (.s .p (.b (.u ka0.lsM))))) .p))),[⟨((.s (.o .unk))::((.s (.o (.ptr 0 0 0 0)))::(ru2 7 ((.s (.c 4 (nL tP)))::((.s (.o (.int .i64)))::((.s (.o (.int .i64)))::(ru2 35 ((.s (.o (.lit .i64 0)))::((.s (.o .unk))::((.s (.o (.ptr 1 0 0 0)))::((.s (.o .nil))::((.s (.o (.ptr 2 0 0 0)))::((.s (.o (.ptr 3 0 0 0)))::(ru2 31 [])))))))))))))),[⟨0,1,true,(some [[(.c 4 (nL tP))]])⟩,⟨0,1,true,(some [[(.c 4 (nL tP))]])⟩,⟨0,0,true,(some [[(.o .nil)]])⟩,⟨0,0,true,(some [[(.o (.ptr 4 0 0 0))]])⟩,⟨174,0,true,(some [])⟩],fun a H=>(⟨(toI (slT a 10))⟩,⟨0,(rL tP (slT a 9)),(toI (slT a 11)),(rL tP (slT (rwT (elT H 0) 0) 0)),(rL tP (slT (rwT (elT H 1) 0) 0)),0,[],[]⟩)⟩,⟨((.s (.o .unk))::((.s (.o (.ptr 0 0 0 0)))::(ru2 7 ((.s (.c 4 (nL tP)))::((.s (.o (.int .i64)))::((.s (.o (.int .i64)))::(ru2 35 ((.s (.o (.lit .i64 0)))::((.s (.o .unk))::((.s (.o (.ptr 1 0 0 0)))::((.s (.o .nil))::((.s (.o (.ptr 2 0 0 0)))::((.s (.o (.ptr 3 0 0 0)))::(ru2 31 [])))))))))))))),[⟨0,1,true,(some [[(.c 4 (nL tP))]])⟩,⟨0,1,true,(some [[(.c 4 (nL tP))]])⟩,⟨0,0,true,(some [[(.o (.sl 4 0 (some 0) none))]])⟩,⟨0,0,true,(some [[(.o (.ptr 5 0 0 0))]])⟩,⟨54,4,true,none⟩,⟨174,0,true,none⟩],fun a H=>(⟨(toI (slT a 10))⟩,⟨1,(rL tP (slT a 9)),(toI (slT a 11)),(rL tP (slT (rwT (elT H 0) 0) 0)),(rL tP (slT (rwT (elT H 1) 0) 0)),(slN (slT (rwT (elT H 2) 0) 0)),(elT H 4),(elT H 5)⟩)⟩],s8,[(some 0,fun p s=>⟨(.unk::((.ptr 0 0 0 0)::(ra 7 ((eL tP s.N1)::((i p.La0)::((i s.S7)::((b (decide (s.S7 < p.La0)))::(ra 34 ((i 0)::(.unk::((.ptr 1 0 0 0)::((.v (.slice none 0 0))::((.ptr 2 0 0 0)::((.ptr 3 0 0 0)::(ra 31 []))))))))))))))),[⟨0,1,[[(eL tP s.b9)]],true,false,0⟩,⟨0,1,[[(eL tP s.Fa6)]],true,false,0⟩,⟨0,0,[[(.v (.slice none 0 0))]],true,false,0⟩,⟨0,0,[[(.ptr 4 0 0 0)]],true,false,0⟩,⟨174,0,[],true,false,0⟩]⟩),(some 0,fun p s=>⟨(.unk::((.ptr 0 0 0 0)::(ra 7 ((eL tP s.N1)::((i p.La0)::((i s.S7)::((b (decide (s.S7 < p.La0)))::(ra 34 ((i 0)::(.unk::((.ptr 1 0 0 0)::((.v (.slice none 0 0))::((.ptr 2 0 0 0)::((.ptr 3 0 0 0)::(ra 31 []))))))))))))))),[⟨0,1,[[(eL tP s.b9)]],true,false,0⟩,⟨0,1,[[(eL tP s.Fa6)]],true,false,0⟩,⟨0,0,[[(.sl 4 0 s.sc0 0)]],true,false,0⟩,⟨0,0,[[(.ptr 5 0 0 0)]],true,false,0⟩,⟨54,4,s.eh4,true,false,0⟩,⟨174,0,s.eh5,true,false,0⟩]⟩)],mb2⟩
theorem mb3:ka1.OkM:=Lo.okM [ka0.prM] (by kernel_rfl) (.cons mb1 .nil) rfl (.cons (fun a H=>by kernel_rfl) (.cons (fun a H=>by kernel_rfl) .nil)) fun p s=>(.sel (Nat.beq s.ph 1) (.of @y5 (fun F _ _ _ _ _=>by unfold y5;(repeat' apply n7 (f:=F))<;>rfl) (by kernel_rfl)) (.of @w9 (fun F _ _ _ _ _=>by unfold w9;(repeat' apply n7 (f:=F))<;>rfl) (by kernel_rfl)))
noncomputable def R8 (x:List Pln):Option (b7×List b8):=let t1:=(lp (s8 (⟨(↑(List.length x):Int)⟩:p5)) (⟨0,(rt tP x),0,(rt tP x),(rt tP x),0,[],[]⟩:l7));(sl ((cnE tP x)&&((cnE tP x)&&((cnE tP x)&&true))) (sl (Nat.beq t1.1 1) (some ((.v (.slice none 0 0)),[])) (sl (Nat.beq t1.1 2) (some ((.sl 0 0 t1.2.sc0 0),[⟨54,4,t1.2.eh4,true,false,0⟩])) none)) none)
noncomputable def R9 (x:List Pln):List Pt:=J9 (one (r1L tX)) (R8 x)
noncomputable def S1 (x:List Pln):Bool:=okO (one (r1L tX)) (R8 x)
noncomputable def ra9:Sum:=ea8 (W6 tP) (fun x=>.guard (S1 x) (.ret ((one (r1L tX)).enc (R9 x),[])))
theorem Ha5:i6 prog G 89 ra9:=za3 (bd b89 pb8) (one (r1L tX)) (o:=R8) fun x=>ge9 (.s .p (.s .p (.s .p (.s (.s .p (.b (.i (.s .p (.b (.u ka1.lsM)))))) .p)))) [ka1.prM] (by kernel_rfl) (.cons mb3 .nil) (by kernel_rfl)
end Go.Ev.Ce
end
section
namespace Go.Ev.Ce
open Go Go.Ev Go.Ev.L Go.Proofs
set_option maxRecDepth 100000
noncomputable def xb3:List (Nat×Sum):=[]
theorem gc2:l0 prog G xb3:=trivial
structure ka2 where
 is0:Int
 pd2:List Int
 is8:Int
structure I4 where
 is9:Int
noncomputable def Yb3 (p:ka2) (s:I4):St:=⟨((i p.is0)::(ra 6 ((eL tI p.pd2)::((i p.is8)::((i s.is9)::(ra 13 [])))))),[]⟩
noncomputable def ba6 {α:Type} (k:I4→α) (e:Nat→α) (z:α) (p:ka2) (s:I4):α:=(sl (decide (s.is9 < p.is8)) (sl (inB s.is9 (List.length p.pd2)) (sl (decide ((gL tI p.pd2 s.is9.toNat) < (W (0 - p.is0)))) (e 1) (sl (decide ((gL tI p.pd2 s.is9.toNat) > p.is0)) (e 1) (k ⟨(W (s.is9+1))⟩))) z) (e 2))
noncomputable def fa4 (p:ka2) (s:I4):Stp I4:=ba6 .next .exit .fail p s
noncomputable def Ma3:Lo ka2 I4:=⟨En xb3,0,fe6,[1,0,1,4,4],[0,7,8,9],.p,[⟨((.s (.o (.int .i64)))::(ru2 6 ((.s (.c 1 (nL tI)))::((.s (.o (.int .i64)))::((.s (.o (.int .i64)))::(ru2 13 [])))))),[],fun a H=>(⟨(toI (slT a 0)),(rL tI (slT a 7)),(toI (slT a 8))⟩,⟨(toI (slT a 9))⟩)⟩],fa4,[(none,fun p s=>⟨[(b false)],[]⟩),(some 0,fun p s=>⟨((i p.is0)::(ra 6 ((eL tI p.pd2)::((i p.is8)::((i s.is9)::((b (decide (s.is9 < p.is8)))::(ra 12 []))))))),[]⟩)],Yb3⟩
theorem Yb4:Ma3.Ok:=Lo.ok [] (by kernel_rfl) .nil rfl (.cons (fun a H=>by kernel_rfl) .nil) fun p s=>(.of @ba6 (fun F _ _ _ _ _=>by unfold ba6;(repeat' apply n7 (f:=F))<;>rfl) (by kernel_rfl))
noncomputable def ua3 (x:Int) (y:List Int):Option (b7×List b8):=let t1:=(lp (fa4 (⟨x,(rt tI y),(↑(List.length y):Int)⟩:ka2)) (⟨0⟩:I4));(sl ((cnE tI y)&&true) (sl (Nat.beq t1.1 1) (some ((b false),[])) (sl (Nat.beq t1.1 2) (some ((b true),[])) none)) none)
noncomputable def ka3 (x:Int) (y:List Int):Bool:=J9 (one r1B) (ua3 x y)
noncomputable def ka4 (x:Int) (y:List Int):Bool:=okO (one r1B) (ua3 x y)
noncomputable def db4:Sum:=ia7 cI (W6 tI) (fun x y=>.guard (ka4 x y) (.ret ((one r1B).enc (ka3 x y),[])))
theorem xb4:i6 prog G 164 db4:=bb2 (bd Ee0 gc2) (one r1B) (o:=ua3) fun x y=>za4 (.s .p (.s (.s .p (.b (.u Ma3.ls))) .p)) [Ma3.pr] (by kernel_rfl) (.cons Yb4 .nil) (by kernel_rfl)
noncomputable def Yb5:List (Nat×Sum):=[]
theorem Rb1:l0 prog G Yb5:=trivial
noncomputable def xa7 (x:Int):Int:=(if (W (0 - x)) > x then (W (0 - x)) else x)
noncomputable def pb9:Sum:=ea8 cI (fun x=>.ret ((one r1I).enc (xa7 x),[]))
theorem Yb6:i6 prog G 214 pb9:=Vb7 (bd Ge3 Rb1) fun x=>s5 (by kernel_rfl)
noncomputable def Ma4:List (Nat×Sum):=[(214,pb9)]
theorem Yb7:l0 prog G Ma4:=⟨Yb6,trivial⟩
structure W0 where
 za0:List Int
 is7:Int
 is8:Int
structure J1 where
 is3:Int
 is5:Int
noncomputable def Rb2 (p:W0) (s:J1):St:=⟨(ra 3 ((i s.is3)::(.unk::((i s.is5)::((eL tI p.za0)::((i p.is7)::((i p.is8)::(ra 15 [])))))))),[]⟩
noncomputable def Y0 {α:Type} (k:J1→α) (e:Nat→α) (z:α) (p:W0) (s:J1):α:=(sl (decide (s.is5 > 0)) (sl (s.is5==0) z (k ⟨s.is5,(Int.tmod s.is3 s.is5)⟩)) (e 1))
noncomputable def S6 (p:W0) (s:J1):Stp J1:=Y0 .next .exit .fail p s
noncomputable def Ha6:Lo W0 J1:=⟨En Ma4,0,Od9,[1,1,0,1,4,4,1,1,0,4,1,1,1,4,4],[3,5,6,7,8],.p,[⟨(ru2 3 ((.s (.o (.int .i64)))::((.s (.o .unk))::((.s (.o (.int .i64)))::((.s (.c 1 (nL tI)))::((.s (.o (.int .i64)))::((.s (.o (.int .i64)))::(ru2 15 [])))))))),[],fun a H=>(⟨(rL tI (slT a 6)),(toI (slT a 7)),(toI (slT a 8))⟩,⟨(toI (slT a 3)),(toI (slT a 5))⟩)⟩],S6,[(some 2,fun p s=>⟨(ra 3 ((i s.is3)::(.unk::((i s.is5)::((eL tI p.za0)::((i p.is7)::((i p.is8)::(ra 7 ((i s.is5)::((b (decide (s.is5 > 0)))::(ra 6 []))))))))))),[]⟩)],Rb2⟩
theorem Rb3:Ha6.Ok:=Lo.ok [] (by kernel_rfl) .nil rfl (.cons (fun a H=>by kernel_rfl) .nil) fun p s=>(.of @Y0 (fun F _ _ _ _ _=>by unfold Y0;(repeat' apply n7 (f:=F))<;>rfl) (by kernel_rfl))
structure fa5 where
 is7:Int
structure F8 where
 is3:Int
 za0:List Int
 is8:Int
noncomputable def Rb4 (p:fa5) (s:F8):St:=⟨(ra 3 ((i s.is3)::(.unk::(.unk::((eL tI s.za0)::((i p.is7)::((i s.is8)::(ra 15 [])))))))),[]⟩
noncomputable def Y1 {α:Type} (k:F8→α) (e:Nat→α) (z:α) (p:fa5) (s:F8):α:=let t1:=(xa7 (gL tI s.za0 s.is8.toNat));let t2:=(lp (S6 (⟨(rt tI s.za0),p.is7,s.is8⟩:W0)) (⟨s.is3,t1⟩:J1));(sl (decide (s.is8 < p.is7)) (sl (inB s.is8 (List.length s.za0)) (sl ((gL tI s.za0 s.is8.toNat)==(-9223372036854775808)) (e 1) (sl ((cnE tI s.za0)&&true) (sl (Nat.beq t2.1 1) (k ⟨t2.2.is3,(rt tI s.za0),(W (s.is8+1))⟩) z) z)) z) (e 2))
noncomputable def ba7 (p:fa5) (s:F8):Stp F8:=Y1 .next .exit .fail p s
noncomputable def Ha7:Lo fa5 F8:=⟨En Ma4,0,Od9,[1,1,0,1,4,4],[3,6,7,8],(.s .p (.s .p (.s (.b (.s .p (.s .p (.s .p (.b (.u Ha6.ls)))))) .p))),[⟨(ru2 3 ((.s (.o (.int .i64)))::((.s (.o .unk))::((.s (.o .unk))::((.s (.c 1 (nL tI)))::((.s (.o (.int .i64)))::((.s (.o (.int .i64)))::(ru2 15 [])))))))),[],fun a H=>(⟨(toI (slT a 7))⟩,⟨(toI (slT a 3)),(rL tI (slT a 6)),(toI (slT a 8))⟩)⟩],ba7,[(none,fun p s=>⟨[(i 0)],[]⟩),(some 0,fun p s=>⟨(ra 3 ((i s.is3)::(.unk::(.unk::((eL tI s.za0)::((i p.is7)::((i s.is8)::((b (decide (s.is8 < p.is7)))::(ra 14 []))))))))),[]⟩)],Rb4⟩
theorem Rb5:Ha7.Ok:=Lo.ok [Ha6.pr] (by kernel_rfl) (.cons Rb3 .nil) rfl (.cons (fun a H=>by kernel_rfl) .nil) fun p s=>(.of @Y1 (fun F _ _ _ _ _=>by unfold Y1;(repeat' apply n7 (f:=F))<;>rfl) (by kernel_rfl))
noncomputable def oa7 (x:List Int):Option (b7×List b8):=let t1:=(lp (ba7 (⟨(↑(List.length x):Int)⟩:fa5)) (⟨0,(rt tI x),0⟩:F8));(sl ((cnE tI x)&&true) (sl (Nat.beq t1.1 1) (some ((i 0),[])) (sl (Nat.beq t1.1 2) (some ((i t1.2.is3),[])) none)) none)
noncomputable def Ca6 (x:List Int):Int:=J9 (one r1I) (oa7 x)
noncomputable def Ca7 (x:List Int):Bool:=okO (one r1I) (oa7 x)
noncomputable def xb5:Sum:=ea8 (W6 tI) (fun x=>.guard (Ca7 x) (.ret ((one r1I).enc (Ca6 x),[])))
theorem gc3:i6 prog G 165 xb5:=za3 (bd Ee1 Yb7) (one r1I) (o:=oa7) fun x=>za4 (.s .p (.s .p (.s (.s .p (.b (.u Ha7.ls))) .p))) [Ha7.pr] (by kernel_rfl) (.cons Rb5 .nil) (by kernel_rfl)
noncomputable def yc8:List (Nat×Sum):=[(164,db4),(165,xb5)]
theorem nc7:l0 prog G yc8:=⟨xb4,gc3,trivial⟩
noncomputable def Ba0 (x:Pln):Option (b7×List b8):=let t1:=(ka3 4608 [x.n.x,x.n.y,x.n.z]);let t2:=(Ca6 [x.n.x,x.n.y,x.n.z]);let t3:=(ka3 2097152 [x.b]);(sl (ka4 4608 [x.n.x,x.n.y,x.n.z]) (sl t1 (sl (Ca7 [x.n.x,x.n.y,x.n.z]) (sl (t2==1) (sl (ka4 2097152 [x.b]) (some ((b t3),[])) none) (some ((b false),[]))) none) (some ((b false),[]))) none)
noncomputable def Oa0 (x:Pln):Bool:=J9 (one r1B) (Ba0 x)
noncomputable def Oa1 (x:Pln):Bool:=okO (one r1B) (Ba0 x)
noncomputable def Nb2:Sum:=ea8 (O8 tP) (fun x=>.guard (Oa1 x) (.ret ((one r1B).enc (Oa0 x),[])))
theorem yc9:i6 prog G 85 Nb2:=za3 (bd b85 nc7) (one r1B) (o:=Ba0) fun x=>s5 (by kernel_rfl)
noncomputable def nc8:List (Nat×Sum):=[(85,Nb2)]
theorem gc4:l0 prog G nc8:=⟨yc9,trivial⟩
noncomputable def ua4 (x:Pln):Option (b7×List b8):=let t1:=(Oa0 x);(sl (Oa1 x) (some ((b (!t1)),[])) none)
noncomputable def Ha8 (x:Pln):Bool:=J9 (one r1B) (ua4 x)
noncomputable def Ha9 (x:Pln):Bool:=okO (one r1B) (ua4 x)
noncomputable def Eb3:Sum:=ea8 (O8 tP) (fun x=>.guard (Ha9 x) (.ret ((one r1B).enc (Ha8 x),[])))
theorem nc9:i6 prog G 84 Eb3:=za3 (bd b84 gc4) (one r1B) (o:=ua4) fun x=>s5 (by kernel_rfl)
structure Q0 where
 c9:List Pln
noncomputable def ua5:List (Nat×Sum):=[(84,Eb3)]
theorem Xa8:l0 prog G ua5:=⟨nc9,trivial⟩
structure F9 where
 c9:List Pln
 is7:Int
structure o2 where
 is8:Int
noncomputable def Ua4 (p:F9) (s:o2):St:=⟨((eL tP p.c9)::((.fn 84 [])::(ra 5 ((i p.is7)::((i s.is8)::(ra 10 [])))))),[]⟩
noncomputable def B5 {α:Type} (k:o2→α) (e:Nat→α) (z:α) (p:F9) (s:o2):α:=let t1:=(Ha8 (gL tP p.c9 s.is8.toNat));(sl (decide (s.is8 < p.is7)) (sl (inB s.is8 (List.length p.c9)) (sl (Ha9 (gL tP p.c9 s.is8.toNat)) (sl t1 (e 1) (k ⟨(W (s.is8+1))⟩)) z) z) (e 2))
noncomputable def D8 (p:F9) (s:o2):Stp o2:=B5 .next .exit .fail p s
noncomputable def Y8:Lo F9 o2:=⟨En ua5,0,zd8,[1,0,1,4,4],[0,1,7,8],.p,[⟨((.s (.c 4 (nL tP)))::((.s (.o (.fn 84)))::(ru2 5 ((.s (.o (.int .i64)))::((.s (.o (.int .i64)))::(ru2 10 [])))))),[],fun a H=>(⟨(rL tP (slT a 0)),(toI (slT a 7))⟩,⟨(toI (slT a 8))⟩)⟩],D8,[(none,fun p s=>⟨[(i s.is8)],[]⟩),(some 0,fun p s=>⟨((eL tP p.c9)::((.fn 84 [])::(ra 5 ((i p.is7)::((i s.is8)::((b (decide (s.is8 < p.is7)))::(ra 9 []))))))),[]⟩)],Ua4⟩
theorem Ua5:Y8.Ok:=Lo.ok [] (by kernel_rfl) .nil rfl (.cons (fun a H=>by kernel_rfl) .nil) fun p s=>(.of @B5 (fun F _ _ _ _ _=>by unfold B5;(repeat' apply n7 (f:=F))<;>rfl) (by kernel_rfl))
structure Q1 where
 alt:Nat
 is0:Int
noncomputable def C5 {α:Type} (kk:Q1→α) (x:Q0):α:=let t1:=(lp (D8 (⟨(rt tP x.c9),(↑(List.length x.c9):Int)⟩:F9)) (⟨0⟩:o2));(sl ((cnE tP x.c9)&&true) (sl (Nat.beq t1.1 1) (kk ⟨1,t1.2.is8⟩) (sl (Nat.beq t1.1 2) (kk ⟨1,(-1)⟩) (kk ⟨0,0⟩))) (kk ⟨0,0⟩))
noncomputable def da7 (x:Q0):Q1:=C5 (fun r=>r) x
noncomputable def ba8 (x:Q0) (r:Q1):DT (b7×List b8):=(.ite (Nat.beq r.alt 1) (.ret ((i r.is0),[])) .fail)
theorem gb9 {α β:Type} (F:α→β) (kk:Q1→α) (x:Q0):F (C5 kk x)=C5 (fun r=>F (kk r)) x:=by unfold C5;(repeat' apply n7 (f:=F))<;>rfl
noncomputable def ya3:Sum:=bb3 ⟨[(.s (.c 4 (nL tP))),(.s (.o (.fn 84)))],[],fun a H=>(⟨(rL tP (slT a 0))⟩,())⟩ (fun x=>ba8 x (da7 x))
theorem db5:i6 prog G 163 ya3:=P6 (enc:=fun x=>⟨[(eL tP x.c9),(.fn 84 [])],[]⟩) (fun a H=>by kernel_rfl) (bd le8 Xa8) fun x=>za4 (.s .p (.s (.s .p (.b (.u Y8.ls))) .p)) [Y8.pr] (by kernel_rfl) (.cons Ua5 .nil) (Eq.trans (b:=C5 (fun r=>(ba8 x r).run) x) (by kernel_rfl) (gb9 (fun r=>(ba8 x r).run) (fun r=>r) x).symm)
structure K6 where
 c9:List Pln
noncomputable def Qa3:List (Nat×Sum):=[(163,ya3)]
theorem Ma5:l0 prog G Qa3:=⟨db5,trivial⟩
structure K7 where
 alt:Nat
 bs0:Bool
noncomputable def z6 {α:Type} (kk:K7→α) (x:K6):α:=let t1:=(da7 ⟨(rt tP x.c9)⟩);(sl ((cnE tP x.c9)&&true) (sl (Nat.beq t1.alt 1) (kk ⟨1,(decide (t1.is0≥0))⟩) (kk ⟨0,false⟩)) (kk ⟨0,false⟩))
noncomputable def W8 (x:K6):K7:=z6 (fun r=>r) x
noncomputable def U5 (x:K6) (r:K7):DT (b7×List b8):=(.ite (Nat.beq r.alt 1) (.ret ((b r.bs0),[])) .fail)
theorem Ua6 {α β:Type} (F:α→β) (kk:K7→α) (x:K6):F (z6 kk x)=z6 (fun r=>F (kk r)) x:=by unfold z6;(repeat' apply n7 (f:=F))<;>rfl
noncomputable def oa8:Sum:=bb3 ⟨[(.s (.c 4 (nL tP))),(.s (.o (.fn 84)))],[],fun a H=>(⟨(rL tP (slT a 0))⟩,())⟩ (fun x=>U5 x (W8 x))
theorem Qa4:i6 prog G 83 oa8:=P6 (enc:=fun x=>⟨[(eL tP x.c9),(.fn 84 [])],[]⟩) (fun a H=>by kernel_rfl) (bd b83 Ma5) fun x=>s5 (Eq.trans (b:=z6 (fun r=>(U5 x r).run) x) (by kernel_rfl) (Ua6 (fun r=>(U5 x r).run) (fun r=>r) x).symm)
noncomputable def Ic3:List (Nat×Sum):=[(83,oa8)]
theorem zc0:l0 prog G Ic3:=⟨Qa4,trivial⟩
noncomputable def Ia0 (x:List Pln):Option (b7×List b8):=let t1:=(W8 ⟨(rt tP x)⟩);(sl (decide ((↑(List.length x):Int) > 48)) (some ((i 2),[])) (sl ((cnE tP x)&&true) (sl (Nat.beq t1.alt 1) (sl t1.bs0 (some ((i 12),[])) (some ((i 0),[]))) none) none))
noncomputable def Ia1 (x:List Pln):Int:=J9 (one r1I) (Ia0 x)
noncomputable def Ia2 (x:List Pln):Bool:=okO (one r1I) (Ia0 x)
noncomputable def ub3:Sum:=ea8 (W6 tP) (fun x=>.guard (Ia2 x) (.ret ((one r1I).enc (Ia1 x),[])))
theorem Nb3:i6 prog G 15 ub3:=za3 (bd b15 zc0) (one r1I) (o:=Ia0) fun x=>s5 (by kernel_rfl)
noncomputable def oc0:List (Nat×Sum):=[(15,ub3)]
theorem gc5:l0 prog G oc0:=⟨Nb3,trivial⟩
noncomputable def ua6 (x:List Pln):Option (b7×List b8):=let t1:=(Ia1 (rt tP x));(sl (okE tP x) (sl (Ia2 (rt tP x)) (some ((b (t1 != 0)),[])) none) none)
noncomputable def Ia3 (x:List Pln):Bool:=J9 (one r1B) (ua6 x)
noncomputable def Ia4 (x:List Pln):Bool:=okO (one r1B) (ua6 x)
noncomputable def Eb4:Sum:=ea8 (W6 tP) (fun x=>.guard (Ia4 x) (.ret ((one r1B).enc (Ia3 x),[])))
theorem oc1:i6 prog G 168 Eb4:=za3 (bd Ee4 gc5) (one r1B) (o:=ua6) fun x=>s5 (by kernel_rfl)
end Go.Ev.Ce
end
namespace Go.Proofs
open Go.Shelf
set_option maxRecDepth 100000 in
def Ce.growP_ren:Go.Shelf.Ren:=⟨fun | 4=>216 | n=>n,fun | 22=>25 | 25=>50 | 3=>3 | 4=>4 | 9=>9 | 20=>20 | 0=>0 | n=>n,fun | n=>n⟩
set_option maxRecDepth 100000 in
theorem Ce.growP:Go.Proofs.Lays8.n4 Tryz.prog Ce.growP_ren:={
 mixed:=by kernel_rfl
 f4:=⟨Tryz.f216.name,by decide,Tryz.func216.trans (congrArg some (by kernel_rfl))⟩
 t0:=Tryz.underlying0
 a0:=Tryz.isAgg0
 z0:=Tryz.sizeOf0
 v0:=Tryz.zeroValue0
 t3:=Tryz.underlying3
 a3:=Tryz.isAgg3
 z3:=Tryz.sizeOf3
 v3:=Tryz.zeroValue3
 t4:=Tryz.underlying4
 a4:=Tryz.isAgg4
 z4:=Tryz.sizeOf4
 v4:=Tryz.zeroValue4
 t9:=Tryz.underlying9
 a9:=Tryz.isAgg9
 z9:=Tryz.sizeOf9
 v9:=Tryz.zeroValue9
 t20:=Tryz.underlying20
 a20:=Tryz.isAgg20
 z20:=Tryz.sizeOf20
 v20:=Tryz.zeroValue20
 t22:=Tryz.underlying25
 a22:=Tryz.isAgg25
 z22:=Tryz.sizeOf25
 v22:=Tryz.zeroValue25 }
end Go.Proofs
namespace Go.Ev.Ce
open Go Go.Ev Go.Proofs
noncomputable def Xc2:List b7:=[i 0,i 0,i 0,i 0]
noncomputable def za5:Sum:=fun args blks=>match args,blks with
 | [.v (.slice none 0 0), .v (.int .i64 n)], [] => .ite (n == 0) (.ret (.v (.slice none 0 0), []))
   (.guard (Bool.and (decide (0 < n)) (Nat.ble (n.toNat*32) room)) (.ret (.sl 0 0 0 0,[⟨50,4,List.replicate n.toNat Xc2,true,false,0⟩])))
 | _,_=>.fail
theorem z50:zeT Tryz.prog 50=some Xc2:=by kernel_rfl
theorem s50:szT Tryz.prog 50=4:=by kernel_rfl
theorem y50:byT Tryz.prog 50=32:=by kernel_rfl
theorem t25:Ce.growP_ren.t 25=50:=by kernel_rfl
theorem f4:Ce.growP_ren.f 4=216:=by kernel_rfl
set_option maxRecDepth 100000 in
theorem Eb5:i6 prog G 216 za5:=by
 intro args blks r out he W ρ F w args' hH hlen hargs hG
 refine⟨⟨_,Tryz.func216,by kernel_rfl,of_decide_eq_true (by kernel_rfl)⟩,?_⟩
 unfold za5 at he
 split at he
 case h_2=>cases he
 rename_i n
 match args',hlen with
 | [v0,v1],_ =>
 have e0:=aa7 (hargs 0 _ _ rfl rfl)
 have e1:=aa7 (hargs 1 _ _ rfl rfl)
 subst e0 e1
 rcases DT.run_ite_some he with⟨h0,he⟩ | ⟨h0,he⟩
 ·have h0:n=0:=by simpa using h0
  subst h0
  injection he with he;injection he with q1 q2;subst q1 q2
  have:=Any8.slices_Grow_room Ce.growP none 0 0 0 w (Nat.le_refl _) (by omega) (by omega) (by omega)
  rw[f4] at this
  refine this.mono fun e w' ⟨h1,h2⟩=>?_
  subst h1 h2
  exact⟨_,rfl,ρ,F,.refl,hH,.ofv _⟩
 ·obtain⟨hg,he⟩:=DT.run_guard_some he
  rw[Bool.and_eq_true,decide_eq_true_eq] at hg
  obtain⟨hpos,hroom⟩:=hg
  have hroom:=Nat.le_of_ble_eq_true hroom
  unfold room at hroom
  obtain⟨m,rfl⟩:=Int.eq_ofNat_of_zero_le (Int.le_of_lt hpos)
  have hm:0 < m:=by omega
  have he:some (b7.sl 0 0 0 0,[(⟨50,4,List.replicate m Xc2,true,false,0⟩:b8)])=some (r,out):=he
  injection he with he;injection he with q1 q2;subst q1 q2
  obtain⟨ti,zv,hi,hzz,hzr,hone⟩:=La6 (E:=En []) z50
  have hi:Tryz.prog.info? 50=some ti:=hi
  have hts:ti.size=4:=by have:=s50;simp only[szT,hi] at this;exact this
  have hby:ti.bytes=32:=by have:=y50;simp only[byT,hi] at this;exact this
  have hzs:zv.cells.size=4:=by
   have:=congrArg List.length hzr
   simpa [Xc2] using this.symm
  have hroom':m*32≤140737488355328:=hroom
  have:=Any8.slices_Grow_grow Ce.growP ti zv (by rw[t25];exact hi) hzz (by omega) none 0 0 m [] w (Nat.le_refl _) (by omega) (by rw[hby];omega) (by omega) (by simp) (fun _=>rfl) (fun a ha=>by cases ha)
  rw[f4,t25] at this
  refine this.mono fun e w' ⟨h1,h2⟩=>?_
  have hcap:=grownCap_ge w (0+m) 0 50
  have hcap2:=grownCap_le_maxLen w (0+m) 0 50 (by unfold maxLen;omega)
  subst h1
  generalize grownCap w (0+m) 0 50=G' at *
  have hsz:∀ q,(Builtin.zeroCells zv.cells q).size=q*4:=fun q=>by simp[Builtin.zeroCells,hzs]
  have hcc:(#[]++Builtin.zeroCells zv.cells (0+m - 0)++Builtin.zeroCells zv.cells (G' - (0+m))).size=G'*4:=by
   rw[Array.size_append,Array.size_append,hsz,hsz]
   simp
   omega
  have hobj:w'.heap[w.heap.size]?=some (.cells (#[]++Builtin.zeroCells zv.cells (0+m - 0)++Builtin.zeroCells zv.cells (G' - (0+m))) 50 (0,0)):=by
   rw[h2]
   exact World.alloc_heap_new w.drew _
  have hold:∀ k,k < w.heap.size→w'.heap[k]?=w.heap[k]?:=fun k hk=>by
   rw[h2]
   simp only[World.alloc,Array.getElem?_push,World.drew]
   rw[if_neg (by omega)]
  have hws:w'.heap.size=w.heap.size+1:=by rw[h2];exact Array.size_push ..
  obtain⟨h6,h7⟩:=hH.newAt (w':=w') (by rw[h2];rfl) (by rw[h2];rfl) (by rw[h2];rfl) (by rw[h2];exact Nat.le_succ _) (by omega) hold w.heap.size (Nat.le_refl _) 50 4 (List.replicate m Xc2) _ 50 hobj
   (fun j r hr=>by rw[List.getElem?_replicate] at hr;split at hr<;>cases hr;rfl) (by rw[List.length_replicate,hcc];omega)
   (fun j r c x hr hx=>by
    have hjm:j < m:=by
     have:=(List.getElem?_eq_some_iff.1 hr).1
     simpa using this
    rw[List.getElem?_replicate,if_pos hjm] at hr
    injection hr with hr
    subst hr
    have hc4:c < 4:=(List.getElem?_eq_some_iff.1 hx).1
    rw[hzr,List.getElem?_map] at hx
    have hcz:c < zv.cells.size:=by omega
    have hq:zv.cells.toList[c]?=some zv.cells[c]:=by simp[hcz]
    rw[hq] at hx
    injection hx with hx
    subst hx
    refine⟨zv.cells[c],?_,.v _ (hone _ (by simp))⟩
    have hlt:j*4+c < m*4:=by omega
    rw[Array.append_assoc,Array.empty_append,Array.getElem?_append_left (by rw[hsz];omega)]
    have hm4:(j*4+c) % 4=c:=by omega
    simp only[Builtin.zeroCells,hzs]
    rw[Array.getElem?_map,Array.getElem?_range]
    rw[if_pos (by omega)]
    simp[hm4,hcz])
   (fun _=>rfl)
  refine⟨_,rfl,_,F,h6,h7,.val (.cell ?_)⟩
  refine .sl 0 0 0 0 _ _ { et:=50,es:=4,elems:=List.replicate m Xc2,own:=true,dead:=false,g:=0 } rfl rfl (Nat.le_refl _) (Nat.zero_le _) rfl hcap2 fun _=>⟨.inr ?_,?_,by simp⟩
  ·simp[ρnew]
  ·simp only[ρnew,List.length_nil,if_true]
   rw[hcc,Nat.zero_add]
end Go.Ev.Ce
section
namespace Go.Ev.Ce
open Go Go.Ev Go.Ev.L Go.Proofs
set_option maxRecDepth 100000
noncomputable def na2:List (Nat×Sum):=[(216,za5)]
theorem qb0:l0 prog G na2:=⟨Eb5,trivial⟩
structure M0 where
 sa2:List (List Pln)
 Fc0:List (List Pln)
 La0:Int
structure q9 where
 is3:Int
 S7:Int
noncomputable def mb4 (p:M0) (s:q9):St:=⟨((eL (tLs tP) p.sa2)::(.unk::(.unk::((i s.is3)::(ra 5 ((eL (tLs tP) p.Fc0)::((i p.La0)::((i s.S7)::(ra 24 []))))))))),[]⟩
noncomputable def I8 {α:Type} (k:q9→α) (e:Nat→α) (z:α) (p:M0) (s:q9):α:=(sl (decide (s.S7 < p.La0)) (sl (inB s.S7 (List.length p.Fc0)) (sl (decide ((W (s.is3+(↑(List.length (gL (tLs tP) p.Fc0 s.S7.toNat)):Int))) < 0)) z (k ⟨(W (s.is3+(↑(List.length (gL (tLs tP) p.Fc0 s.S7.toNat)):Int))),(W (s.S7+1))⟩)) z) (e 1))
noncomputable def E4 (p:M0) (s:q9):Stp q9:=I8 .next .exit .fail p s
noncomputable def ka5:Lo M0 q9:=⟨En na2,0,Pd0,[1,1,0,1,4,4],[0,3,9,10,11],.p,[⟨((.s (.c 1 (nL (tLs tP))))::((.s (.o .unk))::((.s (.o .unk))::((.s (.o (.int .i64)))::(ru2 5 ((.s (.c 1 (nL (tLs tP))))::((.s (.o (.int .i64)))::((.s (.o (.int .i64)))::(ru2 24 []))))))))),[],fun a H=>(⟨(rL (tLs tP) (slT a 0)),(rL (tLs tP) (slT a 9)),(toI (slT a 10))⟩,⟨(toI (slT a 3)),(toI (slT a 11))⟩)⟩],E4,[(some 0,fun p s=>⟨((eL (tLs tP) p.sa2)::(.unk::(.unk::((i s.is3)::(ra 5 ((eL (tLs tP) p.Fc0)::((i p.La0)::((i s.S7)::((b (decide (s.S7 < p.La0)))::(ra 23 [])))))))))),[]⟩)],mb4⟩
theorem mb5:ka5.OkM:=Lo.okM [] (by kernel_rfl) .nil rfl (.cons (fun a H=>by kernel_rfl) .nil) fun p s=>(.of @I8 (fun F _ _ _ _ _=>by unfold I8;(repeat' apply n7 (f:=F))<;>rfl) (by kernel_rfl))
structure r4 where
 ja0:List (List Pln)
 pd3:Int
structure l5 where
 ph:Nat
 ib7:Int
 ns6:Nat
 eh0:List (List b7)
noncomputable def hb5 (p:r4) (s:l5):St:=⟨(ra 6 ((.v (.slice none 0 0))::(ra 18 ((eL (tLs tP) p.ja0)::((i p.pd3)::((i s.ib7)::(ra 8 []))))))),[]⟩
noncomputable def hb6 (p:r4) (s:l5):St:=⟨(ra 6 ((.sl 0 0 s.ns6 0)::(ra 18 ((eL (tLs tP) p.ja0)::((i p.pd3)::((i s.ib7)::(ra 8 []))))))),[⟨50,4,s.eh0,true,false,0⟩]⟩
noncomputable def mb6 (p:r4) (s:l5):St:=(sel (Nat.beq s.ph 1) (hb6 p s) (hb5 p s))
noncomputable def y6 {α:Type} (k:l5→α) (e:Nat→α) (z:α) (p:r4) (s:l5):α:=(sl (decide (s.ib7 < p.pd3)) (sl (inB s.ib7 (List.length p.ja0)) (sl (Nat.beq (len (k8 (fun k=>(tP).row (gL tP (gL (tLs tP) p.ja0 s.ib7.toNat) k)) (List.range (List.length (gL (tLs tP) p.ja0 s.ib7.toNat))))) 0) (k ⟨0,(W (s.ib7+1)),0,[]⟩) z) z) (e 1))
noncomputable def y7 {α:Type} (k:l5→α) (e:Nat→α) (z:α) (p:r4) (s:l5):α:=(sl (decide (s.ib7 < p.pd3)) (sl (inB s.ib7 (List.length p.ja0)) (sl (Nat.ble (s.ns6+(len (k8 (fun k=>(tP).row (gL tP (gL (tLs tP) p.ja0 s.ib7.toNat) k)) (List.range (List.length (gL (tLs tP) p.ja0 s.ib7.toNat)))))) (len s.eh0)) (k ⟨1,(W (s.ib7+1)),(s.ns6+(len (k8 (fun k=>(tP).row (gL tP (gL (tLs tP) p.ja0 s.ib7.toNat) k)) (List.range (List.length (gL (tLs tP) p.ja0 s.ib7.toNat)))))),(app (D3 s.eh0 s.ns6) (app (k8 (fun k=>(tP).row (gL tP (gL (tLs tP) p.ja0 s.ib7.toNat) k)) (List.range (List.length (gL (tLs tP) p.ja0 s.ib7.toNat)))) (d8 s.eh0 (s.ns6+(len (k8 (fun k=>(tP).row (gL tP (gL (tLs tP) p.ja0 s.ib7.toNat) k)) (List.range (List.length (gL (tLs tP) p.ja0 s.ib7.toNat)))))))))⟩) z) z) (e 2))
noncomputable def A4 (p:r4) (s:l5):Stp l5:=(sel (Nat.beq s.ph 1) (y7 .next .exit .fail p s) (y6 .next .exit .fail p s))
noncomputable def ka6:Lo r4 l5:=⟨En na2,0,Pd0,[1,1,1,1,0,1,4,4],[6,25,26,27],.p,[⟨(ru2 6 ((.s (.o .nil))::(ru2 18 ((.s (.c 1 (nL (tLs tP))))::((.s (.o (.int .i64)))::((.s (.o (.int .i64)))::(ru2 8 []))))))),[],fun a H=>(⟨(rL (tLs tP) (slT a 25)),(toI (slT a 26))⟩,⟨0,(toI (slT a 27)),0,[]⟩)⟩,⟨(ru2 6 ((.s (.o (.sl 0 0 (some 0) none)))::(ru2 18 ((.s (.c 1 (nL (tLs tP))))::((.s (.o (.int .i64)))::((.s (.o (.int .i64)))::(ru2 8 []))))))),[⟨50,4,true,none⟩],fun a H=>(⟨(rL (tLs tP) (slT a 25)),(toI (slT a 26))⟩,⟨1,(toI (slT a 27)),(slN (slT a 6)),(elT H 0)⟩)⟩],A4,[(some 2,fun p s=>⟨(ra 6 ((.v (.slice none 0 0))::(ra 18 ((eL (tLs tP) p.ja0)::((i p.pd3)::((i s.ib7)::((b (decide (s.ib7 < p.pd3)))::(ra 7 [])))))))),[]⟩),(some 2,fun p s=>⟨(ra 6 ((.sl 0 0 s.ns6 0)::(ra 18 ((eL (tLs tP) p.ja0)::((i p.pd3)::((i s.ib7)::((b (decide (s.ib7 < p.pd3)))::(ra 7 [])))))))),[⟨50,4,s.eh0,true,false,0⟩]⟩)],mb6⟩
theorem mb7:ka6.OkM:=Lo.okM [] (by kernel_rfl) .nil rfl (.cons (fun a H=>by kernel_rfl) (.cons (fun a H=>by kernel_rfl) .nil)) fun p s=>(.sel (Nat.beq s.ph 1) (.of @y7 (fun F _ _ _ _ _=>by unfold y7;(repeat' apply n7 (f:=F))<;>rfl) (by kernel_rfl)) (.of @y6 (fun F _ _ _ _ _=>by unfold y6;(repeat' apply n7 (f:=F))<;>rfl) (by kernel_rfl)))
structure da5 where
 alt:Nat
 ns0:Nat
 eh0:List (List b7)
noncomputable def J3 {α:Type} (kk:da5→α) (x:List (List Pln)):α:=let t1:=(lp (E4 (⟨(rt (tLs tP) x),(rt (tLs tP) x),(↑(List.length x):Int)⟩:M0)) (⟨0,0⟩:q9));let t2:=(lp (A4 (⟨(rt (tLs tP) (rt (tLs tP) x)),(↑(List.length (rt (tLs tP) x)):Int)⟩:r4)) (⟨0,0,0,[]⟩:l5));let t3:=(lp (A4 (⟨(rt (tLs tP) (rt (tLs tP) x)),(↑(List.length (rt (tLs tP) x)):Int)⟩:r4)) (⟨1,0,0,(List.replicate t1.2.is3.toNat Xc2)⟩:l5));(sl ((cnE (tLs tP) x)&&((cnE (tLs tP) x)&&true)) (sl (Nat.beq t1.1 1) (sl (t1.2.is3==0) (sl ((cnE (tLs tP) (rt (tLs tP) x))&&true) (sl (Nat.beq t2.1 1) (kk ⟨1,0,[]⟩) (sl (Nat.beq t2.1 2) (kk ⟨2,t2.2.ns6,t2.2.eh0⟩) (kk ⟨0,0,[]⟩))) (kk ⟨0,0,[]⟩)) (sl (Bool.and (decide (0 < t1.2.is3)) (Nat.ble (t1.2.is3.toNat*32) room)) (sl ((cnE (tLs tP) (rt (tLs tP) x))&&true) (sl (Nat.beq t3.1 1) (kk ⟨1,0,[]⟩) (sl (Nat.beq t3.1 2) (kk ⟨2,t3.2.ns6,t3.2.eh0⟩) (kk ⟨0,0,[]⟩))) (kk ⟨0,0,[]⟩)) (kk ⟨0,0,[]⟩))) (kk ⟨0,0,[]⟩)) (kk ⟨0,0,[]⟩))
noncomputable def da6 (x:List (List Pln)):da5:=J3 (fun r=>r) x
noncomputable def na3 (r:da5):DT (b7×List b8):=(.ite (Nat.beq r.alt 1) (.ret ((.v (.slice none 0 0)),[])) (.ite (Nat.beq r.alt 2) (.ret ((.sl 0 0 r.ns0 0),[⟨50,4,r.eh0,true,false,0⟩])) .fail))
theorem yb2 {α β:Type} (F:α→β) (kk:da5→α) (x:List (List Pln)):F (J3 kk x)=J3 (fun r=>F (kk r)) x:=by unfold J3;(repeat' apply n7 (f:=F))<;>rfl
noncomputable def La2:Sum:=ea8 (W6 (tLs tP)) (fun x=>na3 (da6 x))
theorem ub4:i6 prog G 169 La2:=Vb7 (bd Ee5 qb0) fun x=>ge9 (.s .p (.s .p (.s (.s .p (.b (.u ka5.lsM))) (.s .p (.s (.s .p (.b (.u ka6.lsM))) .p))))) [ka5.prM,ka6.prM] (by kernel_rfl) (.cons mb5 (.cons mb7 .nil)) (Eq.trans (b:=J3 (fun r=>(na3 r).run) x) (by kernel_rfl) (yb2 (fun r=>(na3 r).run) (fun r=>r) x).symm)
noncomputable def ud7:List (Nat×Sum):=[(169,La2)]
theorem kd1:l0 prog G ud7:=⟨ub4,trivial⟩
noncomputable def qb1 (x:List (List Pln)):Option (b7×List b8):=let t1:=(da6 (rt (tLs tP) x));(sl (okE (tLs tP) x) (sl (Nat.beq t1.alt 1) (some ((.sl 0 0 6 0),[⟨50,4,[[(i 1),(i 0),(i 0),(i 24)],[(i (-1)),(i 0),(i 0),(i 24)],[(i 0),(i 1),(i 0),(i 24)],[(i 0),(i (-1)),(i 0),(i 24)],[(i 0),(i 0),(i 1),(i 24)],[(i 0),(i 0),(i (-1)),(i 24)]],true,false,0⟩])) (sl (Nat.beq t1.alt 2) (sl (Nat.beq t1.ns0 (len t1.eh0)&&Nat.ble ((t1.ns0+1)*32) room) (sl (Nat.beq (t1.ns0+1) (len (app t1.eh0 [[(i 1),(i 0),(i 0),(i 24)]]))&&Nat.ble (((t1.ns0+1)+1)*32) room) (sl (Nat.beq ((t1.ns0+1)+1) (len (app (app t1.eh0 [[(i 1),(i 0),(i 0),(i 24)]]) [[(i (-1)),(i 0),(i 0),(i 24)]]))&&Nat.ble ((((t1.ns0+1)+1)+1)*32) room) (sl (Nat.beq (((t1.ns0+1)+1)+1) (len (app (app (app t1.eh0 [[(i 1),(i 0),(i 0),(i 24)]]) [[(i (-1)),(i 0),(i 0),(i 24)]]) [[(i 0),(i 1),(i 0),(i 24)]]))&&Nat.ble (((((t1.ns0+1)+1)+1)+1)*32) room) (sl (Nat.beq ((((t1.ns0+1)+1)+1)+1) (len (app (app (app (app t1.eh0 [[(i 1),(i 0),(i 0),(i 24)]]) [[(i (-1)),(i 0),(i 0),(i 24)]]) [[(i 0),(i 1),(i 0),(i 24)]]) [[(i 0),(i (-1)),(i 0),(i 24)]]))&&Nat.ble ((((((t1.ns0+1)+1)+1)+1)+1)*32) room) (sl (Nat.beq (((((t1.ns0+1)+1)+1)+1)+1) (len (app (app (app (app (app t1.eh0 [[(i 1),(i 0),(i 0),(i 24)]]) [[(i (-1)),(i 0),(i 0),(i 24)]]) [[(i 0),(i 1),(i 0),(i 24)]]) [[(i 0),(i (-1)),(i 0),(i 24)]]) [[(i 0),(i 0),(i 1),(i 24)]]))&&Nat.ble (((((((t1.ns0+1)+1)+1)+1)+1)+1)*32) room) (some ((.sl 0 0 ((((((t1.ns0+1)+1)+1)+1)+1)+1) 0),[⟨50,4,(app (app (app (app (app (app t1.eh0 [[(i 1),(i 0),(i 0),(i 24)]]) [[(i (-1)),(i 0),(i 0),(i 24)]]) [[(i 0),(i 1),(i 0),(i 24)]]) [[(i 0),(i (-1)),(i 0),(i 24)]]) [[(i 0),(i 0),(i 1),(i 24)]]) [[(i 0),(i 0),(i (-1)),(i 24)]]),true,false,0⟩])) none) none) none) none) none) none) none)) none)
noncomputable def Ma6 (x:List (List Pln)):List Pln:=J9 (one (r1L tP)) (qb1 x)
noncomputable def Ma7 (x:List (List Pln)):Bool:=okO (one (r1L tP)) (qb1 x)
noncomputable def Jb6:Sum:=ea8 (W6 (tLs tP)) (fun x=>.guard (Ma7 x) (.ret ((one (r1L tP)).enc (Ma6 x),[])))
theorem Rb6:i6 prog G 88 Jb6:=za3 (bd b88 kd1) (one (r1L tP)) (o:=qb1) fun x=>s5 (by kernel_rfl)
structure Q3 where
 sa2:List (List Pln)
noncomputable def ua7:List (Nat×Sum):=[(168,Eb4)]
theorem Xa9:l0 prog G ua7:=⟨oc1,trivial⟩
structure G0 where
 sa2:List (List Pln)
 is7:Int
structure o3 where
 is8:Int
noncomputable def Ua7 (p:G0) (s:o3):St:=⟨((eL (tLs tP) p.sa2)::((.fn 168 [])::(ra 5 ((i p.is7)::((i s.is8)::(ra 10 [])))))),[]⟩
noncomputable def B6 {α:Type} (k:o3→α) (e:Nat→α) (z:α) (p:G0) (s:o3):α:=let t1:=(Ia3 (rt tP (gL (tLs tP) p.sa2 s.is8.toNat)));(sl (decide (s.is8 < p.is7)) (sl (inB s.is8 (List.length p.sa2)) (sl (okE tP (gL (tLs tP) p.sa2 s.is8.toNat)) (sl (Ia4 (rt tP (gL (tLs tP) p.sa2 s.is8.toNat))) (sl t1 (e 1) (k ⟨(W (s.is8+1))⟩)) z) z) z) (e 2))
noncomputable def D9 (p:G0) (s:o3):Stp o3:=B6 .next .exit .fail p s
noncomputable def Y9:Lo G0 o3:=⟨En ua7,0,ge5,[1,0,1,4,4],[0,1,7,8],.p,[⟨((.s (.c 1 (nL (tLs tP))))::((.s (.o (.fn 168)))::(ru2 5 ((.s (.o (.int .i64)))::((.s (.o (.int .i64)))::(ru2 10 [])))))),[],fun a H=>(⟨(rL (tLs tP) (slT a 0)),(toI (slT a 7))⟩,⟨(toI (slT a 8))⟩)⟩],D9,[(none,fun p s=>⟨[(i s.is8)],[]⟩),(some 0,fun p s=>⟨((eL (tLs tP) p.sa2)::((.fn 168 [])::(ra 5 ((i p.is7)::((i s.is8)::((b (decide (s.is8 < p.is7)))::(ra 9 []))))))),[]⟩)],Ua7⟩
theorem Ua8:Y9.Ok:=Lo.ok [] (by kernel_rfl) .nil rfl (.cons (fun a H=>by kernel_rfl) .nil) fun p s=>(.of @B6 (fun F _ _ _ _ _=>by unfold B6;(repeat' apply n7 (f:=F))<;>rfl) (by kernel_rfl))
structure Q4 where
 alt:Nat
 is0:Int
noncomputable def C6 {α:Type} (kk:Q4→α) (x:Q3):α:=let t1:=(lp (D9 (⟨(rt (tLs tP) x.sa2),(↑(List.length x.sa2):Int)⟩:G0)) (⟨0⟩:o3));(sl ((cnE (tLs tP) x.sa2)&&true) (sl (Nat.beq t1.1 1) (kk ⟨1,t1.2.is8⟩) (sl (Nat.beq t1.1 2) (kk ⟨1,(-1)⟩) (kk ⟨0,0⟩))) (kk ⟨0,0⟩))
noncomputable def da8 (x:Q3):Q4:=C6 (fun r=>r) x
noncomputable def ba9 (x:Q3) (r:Q4):DT (b7×List b8):=(.ite (Nat.beq r.alt 1) (.ret ((i r.is0),[])) .fail)
theorem hb7 {α β:Type} (F:α→β) (kk:Q4→α) (x:Q3):F (C6 kk x)=C6 (fun r=>F (kk r)) x:=by unfold C6;(repeat' apply n7 (f:=F))<;>rfl
noncomputable def ya4:Sum:=bb3 ⟨[(.s (.c 1 (nL (tLs tP)))),(.s (.o (.fn 168)))],[],fun a H=>(⟨(rL (tLs tP) (slT a 0))⟩,())⟩ (fun x=>ba9 x (da8 x))
theorem db6:i6 prog G 207 ya4:=P6 (enc:=fun x=>⟨[(eL (tLs tP) x.sa2),(.fn 168 [])],[]⟩) (fun a H=>by kernel_rfl) (bd Ge2 Xa9) fun x=>za4 (.s .p (.s (.s .p (.b (.u Y9.ls))) .p)) [Y9.pr] (by kernel_rfl) (.cons Ua8 .nil) (Eq.trans (b:=C6 (fun r=>(ba9 x r).run) x) (by kernel_rfl) (hb7 (fun r=>(ba9 x r).run) (fun r=>r) x).symm)
structure K8 where
 sa2:List (List Pln)
noncomputable def Qa5:List (Nat×Sum):=[(207,ya4)]
theorem Ma8:l0 prog G Qa5:=⟨db6,trivial⟩
structure K9 where
 alt:Nat
 bs0:Bool
noncomputable def z7 {α:Type} (kk:K9→α) (x:K8):α:=let t1:=(da8 ⟨(rt (tLs tP) x.sa2)⟩);(sl ((cnE (tLs tP) x.sa2)&&true) (sl (Nat.beq t1.alt 1) (kk ⟨1,(decide (t1.is0≥0))⟩) (kk ⟨0,false⟩)) (kk ⟨0,false⟩))
noncomputable def W9 (x:K8):K9:=z7 (fun r=>r) x
noncomputable def U9 (x:K8) (r:K9):DT (b7×List b8):=(.ite (Nat.beq r.alt 1) (.ret ((b r.bs0),[])) .fail)
theorem Ua9 {α β:Type} (F:α→β) (kk:K9→α) (x:K8):F (z7 kk x)=z7 (fun r=>F (kk r)) x:=by unfold z7;(repeat' apply n7 (f:=F))<;>rfl
noncomputable def oa9:Sum:=bb3 ⟨[(.s (.c 1 (nL (tLs tP)))),(.s (.o (.fn 168)))],[],fun a H=>(⟨(rL (tLs tP) (slT a 0))⟩,())⟩ (fun x=>U9 x (W9 x))
theorem Qa6:i6 prog G 157 oa9:=P6 (enc:=fun x=>⟨[(eL (tLs tP) x.sa2),(.fn 168 [])],[]⟩) (fun a H=>by kernel_rfl) (bd De9 Ma8) fun x=>s5 (Eq.trans (b:=z7 (fun r=>(U9 x r).run) x) (by kernel_rfl) (Ua9 (fun r=>(U9 x r).run) (fun r=>r) x).symm)
noncomputable def Ic4:List (Nat×Sum):=[(157,oa9)]
theorem zc1:l0 prog G Ic4:=⟨Qa6,trivial⟩
noncomputable def Ia5 (x:List (List Pln)):Option (b7×List b8):=let t1:=(W9 ⟨(rt (tLs tP) x)⟩);(sl ((cnE (tLs tP) x)&&true) (sl (Nat.beq t1.alt 1) (some ((b (!t1.bs0)),[])) none) none)
noncomputable def Z0 (x:List (List Pln)):Bool:=J9 (one r1B) (Ia5 x)
noncomputable def Z1 (x:List (List Pln)):Bool:=okO (one r1B) (Ia5 x)
noncomputable def xa8:Sum:=ea8 (W6 (tLs tP)) (fun x=>.guard (Z1 x) (.ret ((one r1B).enc (Z0 x),[])))
theorem Ba1:i6 prog G 87 xa8:=za3 (bd b87 zc1) (one r1B) (o:=Ia5) fun x=>s5 (by kernel_rfl)
structure Z2 where
 la8:Int
 la9:Int
 ma0:Int
 gb0:Int
 i7:Int
 c8:Int
 i8:Int
 e8:Int
noncomputable def qb2:List (Nat×Sum):=[(102,kb0)]
theorem mb8:l0 prog G qb2:=⟨tb7,trivial⟩
structure O4 where
 bs0:Bool
noncomputable def O5 {α:Type} (kk:O4→α) (x:Z2):α:=let t1:=(ma7 (⟨(⟨x.i7,x.c8,x.i8⟩:V3),x.e8⟩:Pln) (⟨x.la8,x.la9,x.ma0,x.gb0⟩:Pt));(kk ⟨(decide (t1 > 0))⟩)
noncomputable def na4 (x:Z2):O4:=O5 (fun r=>r) x
noncomputable def ka7 (x:Z2) (r:O4):DT (b7×List b8):=.ret ((b r.bs0),[⟨0,4,[[(i x.i7),(i x.c8),(i x.i8),(i x.e8)]],true,false,0⟩])
theorem ub5 {α β:Type} (F:α→β) (kk:O4→α) (x:Z2):F (O5 kk x)=O5 (fun r=>F (kk r)) x:=by unfold O5;(repeat' apply n7 (f:=F))<;>rfl
noncomputable def Ia6:Sum:=bb3 ⟨[(.agg [(.o (.int .i64)),(.o (.int .i64)),(.o (.int .i64)),(.o (.int .i64))]),(.s (.o (.ptr 0 0 0 0)))],[⟨0,4,true,(some [[(.o (.int .i64)),(.o (.int .i64)),(.o (.int .i64)),(.o (.int .i64))]])⟩],fun a H=>(⟨(toI (slT (cellsOf (slT a 0)) 0)),(toI (slT (cellsOf (slT a 0)) 1)),(toI (slT (cellsOf (slT a 0)) 2)),(toI (slT (cellsOf (slT a 0)) 3)),(toI (slT (rwT (elT H 0) 0) 0)),(toI (slT (rwT (elT H 0) 0) 1)),(toI (slT (rwT (elT H 0) 0) 2)),(toI (slT (rwT (elT H 0) 0) 3))⟩,())⟩ (fun x=>ka7 x (na4 x))
theorem qb3:i6 prog G 176 Ia6:=P6 (enc:=fun x=>⟨[(.agg [(i x.la8),(i x.la9),(i x.ma0),(i x.gb0)]),(.ptr 0 0 0 0)],[⟨0,4,[[(i x.i7),(i x.c8),(i x.i8),(i x.e8)]],true,false,0⟩]⟩) (fun a H=>by kernel_rfl) (bd Fe2 mb8) fun x=>s5 (Eq.trans (b:=O5 (fun r=>(ka7 x r).run) x) (by kernel_rfl) (ub5 (fun r=>(ka7 x r).run) (fun r=>r) x).symm)
structure T5 where
 A9:List Pt
 i7:Int
 c8:Int
 i8:Int
 e8:Int
noncomputable def ya5:List (Nat×Sum):=[(176,Ia6)]
theorem db7:l0 prog G ya5:=⟨qb3,trivial⟩
structure H5 where
 A9:List Pt
 is7:Int
 i7:Int
 c8:Int
 i8:Int
 e8:Int
structure p0 where
 is8:Int
noncomputable def Ya0 (p:H5) (s:p0):St:=⟨((eL tX p.A9)::((.fn 176 [(.ptr 0 0 0 0)])::(ra 5 ((i p.is7)::((i s.is8)::(ra 10 [])))))),[⟨0,4,[[(i p.i7),(i p.c8),(i p.i8),(i p.e8)]],true,false,0⟩]⟩
noncomputable def E0 {α:Type} (k:p0→α) (e:Nat→α) (z:α) (p:H5) (s:p0):α:=let t1:=(na4 ⟨(gL tX p.A9 s.is8.toNat).px,(gL tX p.A9 s.is8.toNat).py,(gL tX p.A9 s.is8.toNat).pz,(gL tX p.A9 s.is8.toNat).pw,p.i7,p.c8,p.i8,p.e8⟩);(sl (decide (s.is8 < p.is7)) (sl (inB s.is8 (List.length p.A9)) (sl t1.bs0 (e 1) (k ⟨(W (s.is8+1))⟩)) z) (e 2))
noncomputable def G1 (p:H5) (s:p0):Stp p0:=E0 .next .exit .fail p s
noncomputable def ca0:Lo H5 p0:=⟨En ya5,1,Pd1,[1,0,1,4,4],[0,1,7,8],.p,[⟨((.s (.c 4 (nL tX)))::((.fn 176 [(.o (.ptr 0 0 0 0))])::(ru2 5 ((.s (.o (.int .i64)))::((.s (.o (.int .i64)))::(ru2 10 [])))))),[⟨0,4,true,(some [[(.o (.int .i64)),(.o (.int .i64)),(.o (.int .i64)),(.o (.int .i64))]])⟩],fun a H=>(⟨(rL tX (slT a 0)),(toI (slT a 7)),(toI (slT (rwT (elT H 0) 0) 0)),(toI (slT (rwT (elT H 0) 0) 1)),(toI (slT (rwT (elT H 0) 0) 2)),(toI (slT (rwT (elT H 0) 0) 3))⟩,⟨(toI (slT a 8))⟩)⟩],G1,[(none,fun p s=>⟨[(i s.is8)],[⟨0,4,[[(i p.i7),(i p.c8),(i p.i8),(i p.e8)]],true,false,0⟩]⟩),(some 0,fun p s=>⟨((eL tX p.A9)::((.fn 176 [(.ptr 0 0 0 0)])::(ra 5 ((i p.is7)::((i s.is8)::((b (decide (s.is8 < p.is7)))::(ra 9 []))))))),[⟨0,4,[[(i p.i7),(i p.c8),(i p.i8),(i p.e8)]],true,false,0⟩]⟩)],Ya0⟩
theorem Ya1:ca0.Ok:=Lo.ok [] (by kernel_rfl) .nil rfl (.cons (fun a H=>by kernel_rfl) .nil) fun p s=>(.of @E0 (fun F _ _ _ _ _=>by unfold E0;(repeat' apply n7 (f:=F))<;>rfl) (by kernel_rfl))
structure T6 where
 alt:Nat
 is0:Int
noncomputable def E5 {α:Type} (kk:T6→α) (x:T5):α:=let t1:=(lp (G1 (⟨(rt tX x.A9),(↑(List.length x.A9):Int),x.i7,x.c8,x.i8,x.e8⟩:H5)) (⟨0⟩:p0));(sl ((cnE tX x.A9)&&true) (sl (Nat.beq t1.1 1) (kk ⟨1,t1.2.is8⟩) (sl (Nat.beq t1.1 2) (kk ⟨1,(-1)⟩) (kk ⟨0,0⟩))) (kk ⟨0,0⟩))
noncomputable def ha5 (x:T5):T6:=E5 (fun r=>r) x
noncomputable def da9 (x:T5) (r:T6):DT (b7×List b8):=(.ite (Nat.beq r.alt 1) (.ret ((i r.is0),[⟨0,4,[[(i x.i7),(i x.c8),(i x.i8),(i x.e8)]],true,false,0⟩])) .fail)
theorem mb9 {α β:Type} (F:α→β) (kk:T6→α) (x:T5):F (E5 kk x)=E5 (fun r=>F (kk r)) x:=by unfold E5;(repeat' apply n7 (f:=F))<;>rfl
noncomputable def Ba2:Sum:=bb3 ⟨[(.s (.c 4 (nL tX))),(.fn 176 [(.o (.ptr 0 0 0 0))])],[⟨0,4,true,(some [[(.o (.int .i64)),(.o (.int .i64)),(.o (.int .i64)),(.o (.int .i64))]])⟩],fun a H=>(⟨(rL tX (slT a 0)),(toI (slT (rwT (elT H 0) 0) 0)),(toI (slT (rwT (elT H 0) 0) 1)),(toI (slT (rwT (elT H 0) 0) 2)),(toI (slT (rwT (elT H 0) 0) 3))⟩,())⟩ (fun x=>da9 x (ha5 x))
theorem hb8:i6 prog G 185 Ba2:=P6 (enc:=fun x=>⟨[(eL tX x.A9),(.fn 176 [(.ptr 0 0 0 0)])],[⟨0,4,[[(i x.i7),(i x.c8),(i x.i8),(i x.e8)]],true,false,0⟩]⟩) (fun a H=>by kernel_rfl) (bd ve5 db7) fun x=>za4 (.s .p (.s (.s .p (.b (.u ca0.ls))) .p)) [ca0.pr] (by kernel_rfl) (.cons Ya1 .nil) (Eq.trans (b:=E5 (fun r=>(da9 x r).run) x) (by kernel_rfl) (mb9 (fun r=>(da9 x r).run) (fun r=>r) x).symm)
structure M4 where
 A9:List Pt
 i7:Int
 c8:Int
 i8:Int
 e8:Int
noncomputable def Va0:List (Nat×Sum):=[(185,Ba2)]
theorem Qa7:l0 prog G Va0:=⟨hb8,trivial⟩
structure M5 where
 alt:Nat
 bs0:Bool
noncomputable def A6 {α:Type} (kk:M5→α) (x:M4):α:=let t1:=(ha5 ⟨(rt tX x.A9),x.i7,x.c8,x.i8,x.e8⟩);(sl ((cnE tX x.A9)&&true) (sl (Nat.beq t1.alt 1) (kk ⟨1,(decide (t1.is0≥0))⟩) (kk ⟨0,false⟩)) (kk ⟨0,false⟩))
noncomputable def Z3 (x:M4):M5:=A6 (fun r=>r) x
noncomputable def X0 (x:M4) (r:M5):DT (b7×List b8):=(.ite (Nat.beq r.alt 1) (.ret ((b r.bs0),[⟨0,4,[[(i x.i7),(i x.c8),(i x.i8),(i x.e8)]],true,false,0⟩])) .fail)
theorem Ya2 {α β:Type} (F:α→β) (kk:M5→α) (x:M4):F (A6 kk x)=A6 (fun r=>F (kk r)) x:=by unfold A6;(repeat' apply n7 (f:=F))<;>rfl
noncomputable def sa4:Sum:=bb3 ⟨[(.s (.c 4 (nL tX))),(.fn 176 [(.o (.ptr 0 0 0 0))])],[⟨0,4,true,(some [[(.o (.int .i64)),(.o (.int .i64)),(.o (.int .i64)),(.o (.int .i64))]])⟩],fun a H=>(⟨(rL tX (slT a 0)),(toI (slT (rwT (elT H 0) 0) 0)),(toI (slT (rwT (elT H 0) 0) 1)),(toI (slT (rwT (elT H 0) 0) 2)),(toI (slT (rwT (elT H 0) 0) 3))⟩,())⟩ (fun x=>X0 x (Z3 x))
theorem Va1:i6 prog G 113 sa4:=P6 (enc:=fun x=>⟨[(eL tX x.A9),(.fn 176 [(.ptr 0 0 0 0)])],[⟨0,4,[[(i x.i7),(i x.c8),(i x.i8),(i x.e8)]],true,false,0⟩]⟩) (fun a H=>by kernel_rfl) (bd ve4 Qa7) fun x=>s5 (Eq.trans (b:=A6 (fun r=>(X0 x r).run) x) (by kernel_rfl) (Ya2 (fun r=>(X0 x r).run) (fun r=>r) x).symm)
structure fa6 where
 la8:Int
 la9:Int
 ma0:Int
 gb0:Int
 l6:List Pt
noncomputable def yb3:List (Nat×Sum):=[(113,sa4)]
theorem ub6:l0 prog G yb3:=⟨Va1,trivial⟩
structure V0 where
 alt:Nat
 bs0:Bool
noncomputable def M1 {α:Type} (kk:V0→α) (x:fa6):α:=let t1:=(Z3 ⟨(rt tX x.l6),x.la8,x.la9,x.ma0,x.gb0⟩);(sl ((cnE tX x.l6)&&true) (sl (Nat.beq t1.alt 1) (kk ⟨1,(!t1.bs0)⟩) (kk ⟨0,false⟩)) (kk ⟨0,false⟩))
noncomputable def fa7 (x:fa6):V0:=M1 (fun r=>r) x
noncomputable def sa0 (x:fa6) (r:V0):DT (b7×List b8):=(.ite (Nat.beq r.alt 1) (.ret ((b r.bs0),[⟨0,1,[[(eL tX x.l6)]],true,false,0⟩])) .fail)
theorem Eb6 {α β:Type} (F:α→β) (kk:V0→α) (x:fa6):F (M1 kk x)=M1 (fun r=>F (kk r)) x:=by unfold M1;(repeat' apply n7 (f:=F))<;>rfl
noncomputable def Qa8:Sum:=bb3 ⟨[(.agg [(.o (.int .i64)),(.o (.int .i64)),(.o (.int .i64)),(.o (.int .i64))]),(.s (.o (.ptr 0 0 0 0)))],[⟨0,1,true,(some [[(.c 4 (nL tX))]])⟩],fun a H=>(⟨(toI (slT (cellsOf (slT a 0)) 0)),(toI (slT (cellsOf (slT a 0)) 1)),(toI (slT (cellsOf (slT a 0)) 2)),(toI (slT (cellsOf (slT a 0)) 3)),(rL tX (slT (rwT (elT H 0) 0) 0))⟩,())⟩ (fun x=>sa0 x (fa7 x))
theorem yb4:i6 prog G 175 Qa8:=P6 (enc:=fun x=>⟨[(.agg [(i x.la8),(i x.la9),(i x.ma0),(i x.gb0)]),(.ptr 0 0 0 0)],[⟨0,1,[[(eL tX x.l6)]],true,false,0⟩]⟩) (fun a H=>by kernel_rfl) (bd Fe1 ub6) fun x=>s5 (Eq.trans (b:=M1 (fun r=>(sa0 x r).run) x) (by kernel_rfl) (Eb6 (fun r=>(sa0 x r).run) (fun r=>r) x).symm)
structure Q5 where
 c9:List Pln
 l6:List Pt
noncomputable def ua8:List (Nat×Sum):=[(175,Qa8)]
theorem Ya3:l0 prog G ua8:=⟨yb4,trivial⟩
structure G2 where
 c9:List Pln
 is7:Int
structure o4 where
 is8:Int
 l6:List Pt
noncomputable def Va2 (p:G2) (s:o4):St:=⟨((eL tP p.c9)::((.fn 175 [(.ptr 0 0 0 0)])::(ra 5 ((i p.is7)::((i s.is8)::(ra 10 [])))))),[⟨0,1,[[(eL tX s.l6)]],true,false,0⟩]⟩
noncomputable def B7 {α:Type} (k:o4→α) (e:Nat→α) (z:α) (p:G2) (s:o4):α:=let t1:=(fa7 ⟨(gL tP p.c9 s.is8.toNat).n.x,(gL tP p.c9 s.is8.toNat).n.y,(gL tP p.c9 s.is8.toNat).n.z,(gL tP p.c9 s.is8.toNat).b,(rt tX s.l6)⟩);(sl (decide (s.is8 < p.is7)) (sl (inB s.is8 (List.length p.c9)) (sl ((cnE tX s.l6)&&true) (sl (Nat.beq t1.alt 1) (sl t1.bs0 (e 1) (k ⟨(W (s.is8+1)),(rt tX s.l6)⟩)) z) z) z) (e 2))
noncomputable def E1 (p:G2) (s:o4):Stp o4:=B7 .next .exit .fail p s
noncomputable def Z4:Lo G2 o4:=⟨En ua8,1,ge8,[1,0,1,4,4],[0,1,7,8],.p,[⟨((.s (.c 4 (nL tP)))::((.fn 175 [(.o (.ptr 0 0 0 0))])::(ru2 5 ((.s (.o (.int .i64)))::((.s (.o (.int .i64)))::(ru2 10 [])))))),[⟨0,1,true,(some [[(.c 4 (nL tX))]])⟩],fun a H=>(⟨(rL tP (slT a 0)),(toI (slT a 7))⟩,⟨(toI (slT a 8)),(rL tX (slT (rwT (elT H 0) 0) 0))⟩)⟩],E1,[(none,fun p s=>⟨[(i s.is8)],[⟨0,1,[[(eL tX (rt tX s.l6))]],true,false,0⟩]⟩),(some 0,fun p s=>⟨((eL tP p.c9)::((.fn 175 [(.ptr 0 0 0 0)])::(ra 5 ((i p.is7)::((i s.is8)::((b (decide (s.is8 < p.is7)))::(ra 9 []))))))),[⟨0,1,[[(eL tX s.l6)]],true,false,0⟩]⟩)],Va2⟩
theorem Va3:Z4.Ok:=Lo.ok [] (by kernel_rfl) .nil rfl (.cons (fun a H=>by kernel_rfl) .nil) fun p s=>(.of @B7 (fun F _ _ _ _ _=>by unfold B7;(repeat' apply n7 (f:=F))<;>rfl) (by kernel_rfl))
structure Q6 where
 alt:Nat
 is0:Int
 l6:List Pt
noncomputable def C7 {α:Type} (kk:Q6→α) (x:Q5):α:=let t1:=(lp (E1 (⟨(rt tP x.c9),(↑(List.length x.c9):Int)⟩:G2)) (⟨0,(rt tX x.l6)⟩:o4));(sl ((cnE tP x.c9)&&((cnE tX x.l6)&&true)) (sl (Nat.beq t1.1 1) (kk ⟨1,t1.2.is8,(rt tX t1.2.l6)⟩) (sl (Nat.beq t1.1 2) (kk ⟨1,(-1),t1.2.l6⟩) (kk ⟨0,0,[]⟩))) (kk ⟨0,0,[]⟩))
noncomputable def ea0 (x:Q5):Q6:=C7 (fun r=>r) x
noncomputable def ca1 (x:Q5) (r:Q6):DT (b7×List b8):=(.ite (Nat.beq r.alt 1) (.ret ((i r.is0),[⟨0,1,[[(eL tX r.l6)]],true,false,0⟩])) .fail)
theorem hb9 {α β:Type} (F:α→β) (kk:Q6→α) (x:Q5):F (C7 kk x)=C7 (fun r=>F (kk r)) x:=by unfold C7;(repeat' apply n7 (f:=F))<;>rfl
noncomputable def ya6:Sum:=bb3 ⟨[(.s (.c 4 (nL tP))),(.fn 175 [(.o (.ptr 0 0 0 0))])],[⟨0,1,true,(some [[(.c 4 (nL tX))]])⟩],fun a H=>(⟨(rL tP (slT a 0)),(rL tX (slT (rwT (elT H 0) 0) 0))⟩,())⟩ (fun x=>ca1 x (ea0 x))
theorem db8:i6 prog G 221 ya6:=P6 (enc:=fun x=>⟨[(eL tP x.c9),(.fn 175 [(.ptr 0 0 0 0)])],[⟨0,1,[[(eL tX x.l6)]],true,false,0⟩]⟩) (fun a H=>by kernel_rfl) (bd Ge9 Ya3) fun x=>za4 (.s .p (.s (.s .p (.b (.u Z4.ls))) .p)) [Z4.pr] (by kernel_rfl) (.cons Va3 .nil) (Eq.trans (b:=C7 (fun r=>(ca1 x r).run) x) (by kernel_rfl) (hb9 (fun r=>(ca1 x r).run) (fun r=>r) x).symm)
structure L0 where
 c9:List Pln
 l6:List Pt
noncomputable def Qa9:List (Nat×Sum):=[(221,ya6)]
theorem Ma9:l0 prog G Qa9:=⟨db8,trivial⟩
structure L1 where
 alt:Nat
 bs0:Bool
 l6:List Pt
noncomputable def z8 {α:Type} (kk:L1→α) (x:L0):α:=let t1:=(ea0 ⟨(rt tP x.c9),(rt tX x.l6)⟩);(sl ((cnE tP x.c9)&&((cnE tX x.l6)&&true)) (sl (Nat.beq t1.alt 1) (kk ⟨1,(decide (t1.is0≥0)),t1.l6⟩) (kk ⟨0,false,[]⟩)) (kk ⟨0,false,[]⟩))
noncomputable def X1 (x:L0):L1:=z8 (fun r=>r) x
noncomputable def V1 (x:L0) (r:L1):DT (b7×List b8):=(.ite (Nat.beq r.alt 1) (.ret ((b r.bs0),[⟨0,1,[[(eL tX r.l6)]],true,false,0⟩])) .fail)
theorem Va4 {α β:Type} (F:α→β) (kk:L1→α) (x:L0):F (z8 kk x)=z8 (fun r=>F (kk r)) x:=by unfold z8;(repeat' apply n7 (f:=F))<;>rfl
noncomputable def pa0:Sum:=bb3 ⟨[(.s (.c 4 (nL tP))),(.fn 175 [(.o (.ptr 0 0 0 0))])],[⟨0,1,true,(some [[(.c 4 (nL tX))]])⟩],fun a H=>(⟨(rL tP (slT a 0)),(rL tX (slT (rwT (elT H 0) 0) 0))⟩,())⟩ (fun x=>V1 x (X1 x))
theorem Ra0:i6 prog G 174 pa0:=P6 (enc:=fun x=>⟨[(eL tP x.c9),(.fn 175 [(.ptr 0 0 0 0)])],[⟨0,1,[[(eL tX x.l6)]],true,false,0⟩]⟩) (fun a H=>by kernel_rfl) (bd Fe0 Ma9) fun x=>s5 (Eq.trans (b:=z8 (fun r=>(V1 x r).run) x) (by kernel_rfl) (Va4 (fun r=>(V1 x r).run) (fun r=>r) x).symm)
noncomputable def Lb1:List (Nat×Sum):=[(89,ra9),(174,pa0)]
theorem Eb7:l0 prog G Lb1:=⟨Ha5,Ra0,trivial⟩
noncomputable def ca2 (x:List Pln):Option (b7×List b8):=let t1:=(R9 (rt tP x));let t2:=(X1 ⟨(rt tP x),(rt tX t1)⟩);(sl (okE tP x) (sl (S1 (rt tP x)) (sl ((cnE tP x)&&((cnE tX t1)&&true)) (sl (Nat.beq t2.alt 1) (some ((b (!t2.bs0)),[])) none) none) none) none)
noncomputable def ca3 (x:List Pln):Bool:=J9 (one r1B) (ca2 x)
noncomputable def ca4 (x:List Pln):Bool:=okO (one r1B) (ca2 x)
noncomputable def Ea2:Sum:=ea8 (W6 tP) (fun x=>.guard (ca4 x) (.ret ((one r1B).enc (ca3 x),[])))
theorem Wa7:i6 prog G 92 Ea2:=za3 (bd b92 Eb7) (one r1B) (o:=ca2) fun x=>s5 (by kernel_rfl)
noncomputable def zc2:List (Nat×Sum):=[(87,xa8),(88,Jb6),(89,ra9)]
theorem oc2:l0 prog G zc2:=⟨Ba1,Rb6,Ha5,trivial⟩
noncomputable def Ba3 (x:List Pln):Option (b7×List b8):=let t1:=(Z0 [(rt tP x)]);let t2:=(Ma6 [(rt tP x)]);let t3:=(R9 (rt tP t2));(sl ((okE tP x)&&true) (sl (Z1 [(rt tP x)]) (sl (!t1) (some ((.v (.slice none 0 0)),[])) (sl ((okE tP x)&&true) (sl (Ma7 [(rt tP x)]) (sl (okE tP t2) (sl (S1 (rt tP t2)) (some ((eL tX t3),[])) none) none) none) none)) none) none)
noncomputable def aa9 (x:List Pln):List Pt:=J9 (one (r1L tX)) (Ba3 x)
noncomputable def ba0 (x:List Pln):Bool:=okO (one (r1L tX)) (Ba3 x)
noncomputable def Ba4:Sum:=ea8 (W6 tP) (fun x=>.guard (ba0 x) (.ret ((one (r1L tX)).enc (aa9 x),[])))
theorem Ia7:i6 prog G 18 Ba4:=za3 (bd b18 oc2) (one (r1L tX)) (o:=Ba3) fun x=>s5 (by kernel_rfl)
noncomputable def Xc3:List (Nat×Sum):=[(87,xa8),(88,Jb6),(92,Ea2)]
theorem Ic5:l0 prog G Xc3:=⟨Ba1,Rb6,Wa7,trivial⟩
noncomputable def Ra1 (x:List Pln):Option (b7×List b8):=let t1:=(Z0 [(rt tP x)]);let t2:=(Ma6 [(rt tP x)]);let t3:=(ca3 (rt tP t2));(sl ((okE tP x)&&true) (sl (Z1 [(rt tP x)]) (sl t1 (sl ((okE tP x)&&true) (sl (Ma7 [(rt tP x)]) (sl (okE tP t2) (sl (ca4 (rt tP t2)) (some ((b t3),[])) none) none) none) none) (some ((b false),[]))) none) none)
noncomputable def ma8 (x:List Pln):Bool:=J9 (one r1B) (Ra1 x)
noncomputable def ma9 (x:List Pln):Bool:=okO (one r1B) (Ra1 x)
noncomputable def Ra2:Sum:=ea8 (W6 tP) (fun x=>.guard (ma9 x) (.ret ((one r1B).enc (ma8 x),[])))
theorem Ya4:i6 prog G 20 Ra2:=za3 (bd b20 Ic5) (one r1B) (o:=Ra1) fun x=>s5 (by kernel_rfl)
noncomputable def Ic6:List (Nat×Sum):=[]
theorem zc3:l0 prog G Ic6:=trivial
noncomputable def Ia8 (x:Int) (y:Int):Option (b7×List b8):=(sl (y==0) none (sl (y==0) none (sl (decide ((Int.tmod x y) < 0)) (some ((i (W ((W (Int.tdiv x y)) - 1))),[])) (some ((i (W (Int.tdiv x y))),[])))))
noncomputable def Z5 (x:Int) (y:Int):Int:=J9 (one r1I) (Ia8 x y)
noncomputable def Z6 (x:Int) (y:Int):Bool:=okO (one r1I) (Ia8 x y)
noncomputable def Yb8:Sum:=ia7 cI cI (fun x y=>.guard (Z6 x y) (.ret ((one r1I).enc (Z5 x y),[])))
theorem Ic7:i6 prog G 95 Yb8:=bb2 (bd b95 zc3) (one r1I) (o:=Ia8) fun x y=>s5 (by kernel_rfl)
noncomputable def Nb4:List (Nat×Sum):=[(20,Ra2),(94,tb6),(18,Ba4),(95,Yb8)]
theorem zc4:l0 prog G Nb4:=⟨Ya4,Nb0,Ia7,Ic7,trivial⟩
structure ua9 where
 S8:List Pt
 ee4:Int
structure V2 where
 da0:Int
 aa4:Int
 aa5:Int
 aa6:Int
 Kb3:Int
 Kb4:Int
 Kb5:Int
noncomputable def oc3 (p:ua9) (s:V2):St:=⟨(.unk::(.unk::((.ptr 0 0 0 0)::((.ptr 1 0 0 0)::(.unk::((.ptr 2 0 0 0)::((.ptr 3 0 0 0)::(ra 11 ((eL tX p.S8)::((i p.ee4)::((i s.da0)::(ra 62 [])))))))))))),[⟨0,3,[[(i 0),(i 0),(i 0)]],true,false,0⟩,⟨0,3,[[(i 0),(i 0),(i 0)]],true,false,0⟩,⟨0,3,[[(i s.aa4),(i s.aa5),(i s.aa6)]],true,false,0⟩,⟨0,3,[[(i s.Kb3),(i s.Kb4),(i s.Kb5)]],true,false,0⟩]⟩
noncomputable def ka8 {α:Type} (k:V2→α) (e:Nat→α) (z:α) (p:ua9) (s:V2):α:=let t1:=(Z5 (gL tX p.S8 s.da0.toNat).px (gL tX p.S8 s.da0.toNat).pw);let t2:=(Z5 (gL tX p.S8 s.da0.toNat).py (gL tX p.S8 s.da0.toNat).pw);let t3:=(Z5 (gL tX p.S8 s.da0.toNat).pz (gL tX p.S8 s.da0.toNat).pw);let t4:=(Z5 (W (0 - (gL tX p.S8 s.da0.toNat).px)) (gL tX p.S8 s.da0.toNat).pw);let t5:=(Z5 (W (0 - (gL tX p.S8 s.da0.toNat).py)) (gL tX p.S8 s.da0.toNat).pw);let t6:=(Z5 (W (0 - (gL tX p.S8 s.da0.toNat).pz)) (gL tX p.S8 s.da0.toNat).pw);(sl (decide (s.da0 < p.ee4)) (sl (inB s.da0 (List.length p.S8)) (sl (Z6 (gL tX p.S8 s.da0.toNat).px (gL tX p.S8 s.da0.toNat).pw) (sl (Z6 (gL tX p.S8 s.da0.toNat).py (gL tX p.S8 s.da0.toNat).pw) (sl (Z6 (gL tX p.S8 s.da0.toNat).pz (gL tX p.S8 s.da0.toNat).pw) (sl (Z6 (W (0 - (gL tX p.S8 s.da0.toNat).px)) (gL tX p.S8 s.da0.toNat).pw) (sl (Z6 (W (0 - (gL tX p.S8 s.da0.toNat).py)) (gL tX p.S8 s.da0.toNat).pw) (sl (Z6 (W (0 - (gL tX p.S8 s.da0.toNat).pz)) (gL tX p.S8 s.da0.toNat).pw) (k ⟨(W (s.da0+1)),(if t1 < s.aa4 then t1 else s.aa4),(if t2 < s.aa5 then t2 else s.aa5),(if t3 < s.aa6 then t3 else s.aa6),(if (W (0 - t4)) > s.Kb3 then (W (0 - t4)) else s.Kb3),(if (W (0 - t5)) > s.Kb4 then (W (0 - t5)) else s.Kb4),(if (W (0 - t6)) > s.Kb5 then (W (0 - t6)) else s.Kb5)⟩) z) z) z) z) z) z) z) (e 1))
noncomputable def ea4 (p:ua9) (s:V2):Stp V2:=ka8 .next .exit .fail p s
noncomputable def db9:Lo ua9 V2:=⟨En Nb4,0,re6,[1,1,1,1,0,1,4,4],[2,3,5,6,18,19,20],.p,[⟨((.s (.o .unk))::((.s (.o .unk))::((.s (.o (.ptr 0 0 0 0)))::((.s (.o (.ptr 1 0 0 0)))::((.s (.o .unk))::((.s (.o (.ptr 2 0 0 0)))::((.s (.o (.ptr 3 0 0 0)))::(ru2 11 ((.s (.c 4 (nL tX)))::((.s (.o (.int .i64)))::((.s (.o (.int .i64)))::(ru2 62 [])))))))))))),[⟨0,3,true,(some [[(.o (.lit .i64 0)),(.o (.lit .i64 0)),(.o (.lit .i64 0))]])⟩,⟨0,3,true,(some [[(.o (.lit .i64 0)),(.o (.lit .i64 0)),(.o (.lit .i64 0))]])⟩,⟨0,3,true,(some [[(.o (.int .i64)),(.o (.int .i64)),(.o (.int .i64))]])⟩,⟨0,3,true,(some [[(.o (.int .i64)),(.o (.int .i64)),(.o (.int .i64))]])⟩],fun a H=>(⟨(rL tX (slT a 18)),(toI (slT a 19))⟩,⟨(toI (slT a 20)),(toI (slT (rwT (elT H 2) 0) 0)),(toI (slT (rwT (elT H 2) 0) 1)),(toI (slT (rwT (elT H 2) 0) 2)),(toI (slT (rwT (elT H 3) 0) 0)),(toI (slT (rwT (elT H 3) 0) 1)),(toI (slT (rwT (elT H 3) 0) 2))⟩)⟩],ea4,[(some 0,fun p s=>⟨(.unk::(.unk::((.ptr 0 0 0 0)::((.ptr 1 0 0 0)::(.unk::((.ptr 2 0 0 0)::((.ptr 3 0 0 0)::(ra 11 ((eL tX p.S8)::((i p.ee4)::((i s.da0)::((b (decide (s.da0 < p.ee4)))::(ra 61 []))))))))))))),[⟨0,3,[[(i 0),(i 0),(i 0)]],true,false,0⟩,⟨0,3,[[(i 0),(i 0),(i 0)]],true,false,0⟩,⟨0,3,[[(i s.aa4),(i s.aa5),(i s.aa6)]],true,false,0⟩,⟨0,3,[[(i s.Kb3),(i s.Kb4),(i s.Kb5)]],true,false,0⟩]⟩)],oc3⟩
theorem oc4:db9.Ok:=Lo.ok [] (by kernel_rfl) .nil rfl (.cons (fun a H=>by kernel_rfl) .nil) fun p s=>(.of @ka8 (fun F _ _ _ _ _=>by unfold ka8;(repeat' apply n7 (f:=F))<;>rfl) (by kernel_rfl))
noncomputable def Ia9 (x:List Pln):Option (b7×List b8):=let t1:=(ma8 (rt tP x));let t2:=(O3 (⟨24,24,24⟩:V3) (-1));let t3:=(aa9 (rt tP x));let t4:=(lp (ea4 (⟨(rt tX t3),(↑(List.length t3):Int)⟩:ua9)) (⟨0,24,24,24,t2.x,t2.y,t2.z⟩:V2));(sl (okE tP x) (sl (ma9 (rt tP x)) (sl (!t1) (some ((.tup [(.agg [(i 0),(i 0),(i 0)]),(.agg [(i 0),(i 0),(i 0)]),(b false)]),[])) (sl (okE tP x) (sl (ba0 (rt tP x)) (sl ((cnE tX t3)&&true) (sl (Nat.beq t4.1 1) (some ((.tup [(.agg [(i t4.2.aa4),(i t4.2.aa5),(i t4.2.aa6)]),(.agg [(i t4.2.Kb3),(i t4.2.Kb4),(i t4.2.Kb5)]),(b true)]),[])) none) none) none) none)) none) none)
noncomputable def Ya5 (x:List Pln):V3×V3×Bool:=J9 (fd6 r1V r1V r1B) (Ia9 x)
noncomputable def Ya6 (x:List Pln):Bool:=okO (fd6 r1V r1V r1B) (Ia9 x)
noncomputable def Yb9:Sum:=ea8 (W6 tP) (fun x=>.guard (Ya6 x) (.ret ((fd6 r1V r1V r1B).enc (Ya5 x),[])))
theorem Ic8:i6 prog G 22 Yb9:=za3 (bd b22 zc4) (fd6 r1V r1V r1B) (o:=Ia9) fun x=>za4 (.s .p (.s .p (.s .p (.s .p (.s (.s .p (.b (.u db9.ls))) .p))))) [db9.pr] (by kernel_rfl) (.cons oc4 .nil) (by kernel_rfl)
end Go.Ev.Ce
end
