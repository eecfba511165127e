/- Own work: a part of the proof. -/
import Derived.Test.YtlccibobknidjaaGreatEvBd
import Derived.Test.YtlccibobknidjaaGreatChecked
import Derived.Test.YtlccibobknidjaaGreatEvCePf
import Derived.KernelRfl
import Derived.Test.YtlccibobknidjaaGreatEvSp7
import Derived.Test.YtlccibobknidjaaGreatEvOps
import Derived.Shelf.Spec.SlicesGrow
set_option linter.unusedVariables false
set_option linter.unusedSimpArgs false
set_option linter.unnecessarySimpa false
set_option linter.unusedSectionVars false
section
namespace Go.Ev.Ce
open Go Go.Ev Go.Proofs
set_option maxRecDepth 1000000
theorem mx : (Tryz.prog).follows .mixedOrders = true := Checked.mixed Tryz.checked
theorem b3 : r4 Tryz.prog 3 fun E => i8 E pf3 := r8 mx Tryz.func3 (by kernel_rfl) (f8 (by kernel_rfl))
theorem b4 : r4 Tryz.prog 4 fun E => i8 E pf4 := r8 mx Tryz.func4 (by kernel_rfl) (f8 (by kernel_rfl))
theorem b5 : r4 Tryz.prog 5 fun E => i8 E pf5 := r8 mx Tryz.func5 (by kernel_rfl) (f8 (by kernel_rfl))
theorem b6 : r4 Tryz.prog 6 fun E => i8 E pf6 := r8 mx Tryz.func6 (by kernel_rfl) (f8 (by kernel_rfl))
theorem b13 : r4 Tryz.prog 13 fun E => i8 E af4 := r8 mx Tryz.func13 (by kernel_rfl) (f8 (by kernel_rfl))
theorem b14 : r4 Tryz.prog 14 fun E => i8 E af5 := r8 mx Tryz.func14 (by kernel_rfl) (f8 (by kernel_rfl))
theorem b15 : r4 Tryz.prog 15 fun E => i8 E af6 := r8 mx Tryz.func15 (by kernel_rfl) (f8 (by kernel_rfl))
theorem b16 : r4 Tryz.prog 16 fun E => i8 E Se4 := r8 mx Tryz.func16 (by kernel_rfl) (f8 (by kernel_rfl))
theorem b17 : r4 Tryz.prog 17 fun E => i8 E Se5 := r8 mx Tryz.func17 (by kernel_rfl) (f8 (by kernel_rfl))
theorem b18 : r4 Tryz.prog 18 fun E => i8 E af7 := r8 mx Tryz.func18 (by kernel_rfl) (f8 (by kernel_rfl))
theorem b19 : r4 Tryz.prog 19 fun E => i8 E af8 := r8 mx Tryz.func19 (by kernel_rfl) (f8 (by kernel_rfl))
theorem b20 : r4 Tryz.prog 20 fun E => i8 E af9 := r8 mx Tryz.func20 (by kernel_rfl) (f8 (by kernel_rfl))
theorem b21 : r4 Tryz.prog 21 fun E => i8 E bf0 := r8 mx Tryz.func21 (by kernel_rfl) (f8 (by kernel_rfl))
theorem b22 : r4 Tryz.prog 22 fun E => i8 E Se6 := r8 mx Tryz.func22 (by kernel_rfl) (f8 (by kernel_rfl))
theorem b24 : r4 Tryz.prog 24 fun E => i8 E Se7 := r8 mx Tryz.func24 (by kernel_rfl) (f8 (by kernel_rfl))
theorem b25 : r4 Tryz.prog 25 fun E => i8 E bf1 := r8 mx Tryz.func25 (by kernel_rfl) (f8 (by kernel_rfl))
theorem b26 : r4 Tryz.prog 26 fun E => i8 E Se8 := r8 mx Tryz.func26 (by kernel_rfl) (f8 (by kernel_rfl))
theorem b27 : r4 Tryz.prog 27 fun E => i8 E Le4 := r8 mx Tryz.func27 (by kernel_rfl) (f8 (by kernel_rfl))
theorem b28 : r4 Tryz.prog 28 fun E => i8 E bf2 := r8 mx Tryz.func28 (by kernel_rfl) (f8 (by kernel_rfl))
theorem b29 : r4 Tryz.prog 29 fun E => i8 E bf3 := r8 mx Tryz.func29 (by kernel_rfl) (f8 (by kernel_rfl))
theorem b30 : r4 Tryz.prog 30 fun E => i8 E bf4 := r8 mx Tryz.func30 (by kernel_rfl) (f8 (by kernel_rfl))
theorem b31 : r4 Tryz.prog 31 fun E => i8 E bf5 := r8 mx Tryz.func31 (by kernel_rfl) (f8 (by kernel_rfl))
theorem b33 : r4 Tryz.prog 33 fun E => i8 E bf6 := r8 mx Tryz.func33 (by kernel_rfl) (f8 (by kernel_rfl))
theorem b35 : r4 Tryz.prog 35 fun E => i8 E bf7 := r8 mx Tryz.func35 (by kernel_rfl) (f8 (by kernel_rfl))
theorem b37 : r4 Tryz.prog 37 fun E => i8 E bf8 := r8 mx Tryz.func37 (by kernel_rfl) (f8 (by kernel_rfl))
theorem b39 : r4 Tryz.prog 39 fun E => i8 E Se9 := r8 mx Tryz.func39 (by kernel_rfl) (f8 (by kernel_rfl))
theorem b46 : r4 Tryz.prog 46 fun E => i8 E Te0 := r8 mx Tryz.func46 (by kernel_rfl) (f8 (by kernel_rfl))
theorem b47 : r4 Tryz.prog 47 fun E => i8 E bf9 := r8 mx Tryz.func47 (by kernel_rfl) (f8 (by kernel_rfl))
theorem b54 : r4 Tryz.prog 54 fun E => i8 E cf0 := r8 mx Tryz.func54 (by kernel_rfl) (f8 (by kernel_rfl))
theorem b81 : r4 Tryz.prog 81 fun E => i8 E cf1 := r8 mx Tryz.func81 (by kernel_rfl) (f8 (by kernel_rfl))
theorem b82 : r4 Tryz.prog 82 fun E => i8 E cf2 := r8 mx Tryz.func82 (by kernel_rfl) (f8 (by kernel_rfl))
theorem b83 : r4 Tryz.prog 83 fun E => i8 E cf3 := r8 mx Tryz.func83 (by kernel_rfl) (f8 (by kernel_rfl))
theorem b84 : r4 Tryz.prog 84 fun E => i8 E cf4 := r8 mx Tryz.func84 (by kernel_rfl) (f8 (by kernel_rfl))
theorem b85 : r4 Tryz.prog 85 fun E => i8 E cf5 := r8 mx Tryz.func85 (by kernel_rfl) (f8 (by kernel_rfl))
theorem b86 : r4 Tryz.prog 86 fun E => i8 E cf6 := r8 mx Tryz.func86 (by kernel_rfl) (f8 (by kernel_rfl))
theorem b87 : r4 Tryz.prog 87 fun E => i8 E cf7 := r8 mx Tryz.func87 (by kernel_rfl) (f8 (by kernel_rfl))
theorem b88 : r4 Tryz.prog 88 fun E => i8 E cf8 := r8 mx Tryz.func88 (by kernel_rfl) (f8 (by kernel_rfl))
theorem b90 : r4 Tryz.prog 90 fun E => i8 E xe4 := r8 mx Tryz.func90 (by kernel_rfl) (f8 (by kernel_rfl))
theorem b91 : r4 Tryz.prog 91 fun E => i8 E cf9 := r8 mx Tryz.func91 (by kernel_rfl) (f8 (by kernel_rfl))
theorem b92 : r4 Tryz.prog 92 fun E => i8 E df0 := r8 mx Tryz.func92 (by kernel_rfl) (f8 (by kernel_rfl))
theorem b93 : r4 Tryz.prog 93 fun E => i8 E Le5 := r8 mx Tryz.func93 (by kernel_rfl) (f8 (by kernel_rfl))
theorem b94 : r4 Tryz.prog 94 fun E => i8 E df1 := r8 mx Tryz.func94 (by kernel_rfl) (f8 (by kernel_rfl))
theorem b95 : r4 Tryz.prog 95 fun E => i8 E df2 := r8 mx Tryz.func95 (by kernel_rfl) (f8 (by kernel_rfl))
theorem b97 : r4 Tryz.prog 97 fun E => i8 E df3 := r8 mx Tryz.func97 (by kernel_rfl) (f8 (by kernel_rfl))
theorem b98 : r4 Tryz.prog 98 fun E => i8 E df4 := r8 mx Tryz.func98 (by kernel_rfl) (f8 (by kernel_rfl))
theorem b99 : r4 Tryz.prog 99 fun E => i8 E Te1 := r8 mx Tryz.func99 (by kernel_rfl) (f8 (by kernel_rfl))
theorem Le6 : r4 Tryz.prog 100 fun E => i8 E Te2 := r8 mx Tryz.func100 (by kernel_rfl) (f8 (by kernel_rfl))
theorem df5 : r4 Tryz.prog 101 fun E => i8 E Ee3 := r8 mx Tryz.func101 (by kernel_rfl) (f8 (by kernel_rfl))
theorem df6 : r4 Tryz.prog 102 fun E => i8 E Te3 := r8 mx Tryz.func102 (by kernel_rfl) (f8 (by kernel_rfl))
theorem df7 : r4 Tryz.prog 103 fun E => i8 E Te4 := r8 mx Tryz.func103 (by kernel_rfl) (f8 (by kernel_rfl))
theorem df8 : r4 Tryz.prog 104 fun E => i8 E Te5 := r8 mx Tryz.func104 (by kernel_rfl) (f8 (by kernel_rfl))
theorem We4 : r4 Tryz.prog 105 fun E => i8 E je8 := r8 mx Tryz.func105 (by kernel_rfl) (f8 (by kernel_rfl))
theorem df9 : r4 Tryz.prog 106 fun E => i8 E Ee4 := r8 mx Tryz.func106 (by kernel_rfl) (f8 (by kernel_rfl))
theorem ef0 : r4 Tryz.prog 107 fun E => i8 E Te6 := r8 mx Tryz.func107 (by kernel_rfl) (f8 (by kernel_rfl))
theorem ef1 : r4 Tryz.prog 108 fun E => i8 E Te7 := r8 mx Tryz.func108 (by kernel_rfl) (f8 (by kernel_rfl))
theorem ef2 : r4 Tryz.prog 109 fun E => i8 E Te8 := r8 mx Tryz.func109 (by kernel_rfl) (f8 (by kernel_rfl))
theorem ef3 : r4 Tryz.prog 110 fun E => i8 E Ee5 := r8 mx Tryz.func110 (by kernel_rfl) (f8 (by kernel_rfl))
theorem We5 : r4 Tryz.prog 111 fun E => i8 E Te9 := r8 mx Tryz.func111 (by kernel_rfl) (f8 (by kernel_rfl))
theorem ef4 : r4 Tryz.prog 112 fun E => i8 E Sd4 := r8 mx Tryz.func112 (by kernel_rfl) (f8 (by kernel_rfl))
theorem We6 : r4 Tryz.prog 113 fun E => i8 E Ue0 := r8 mx Tryz.func113 (by kernel_rfl) (f8 (by kernel_rfl))
theorem ef5 : r4 Tryz.prog 114 fun E => i8 E Ue1 := r8 mx Tryz.func114 (by kernel_rfl) (f8 (by kernel_rfl))
theorem ef6 : r4 Tryz.prog 115 fun E => i8 E Ue2 := r8 mx Tryz.func115 (by kernel_rfl) (f8 (by kernel_rfl))
theorem ef7 : r4 Tryz.prog 118 fun E => i8 E Ue3 := r8 mx Tryz.func118 (by kernel_rfl) (f8 (by kernel_rfl))
theorem ef8 : r4 Tryz.prog 119 fun E => i8 E Ue4 := r8 mx Tryz.func119 (by kernel_rfl) (f8 (by kernel_rfl))
theorem ef9 : r4 Tryz.prog 124 fun E => i8 E Ad3 := r8 mx Tryz.func124 (by kernel_rfl) (f8 (by kernel_rfl))
theorem ff0 : r4 Tryz.prog 126 fun E => i8 E Ue5 := r8 mx Tryz.func126 (by kernel_rfl) (f8 (by kernel_rfl))
theorem ff1 : r4 Tryz.prog 129 fun E => i8 E Ue6 := r8 mx Tryz.func129 (by kernel_rfl) (f8 (by kernel_rfl))
theorem ff2 : r4 Tryz.prog 130 fun E => i8 E Ue7 := r8 mx Tryz.func130 (by kernel_rfl) (f8 (by kernel_rfl))
theorem ff3 : r4 Tryz.prog 142 fun E => i8 E Ue8 := r8 mx Tryz.func142 (by kernel_rfl) (f8 (by kernel_rfl))
theorem ff4 : r4 Tryz.prog 157 fun E => i8 E Ue9 := r8 mx Tryz.func157 (by kernel_rfl) (f8 (by kernel_rfl))
theorem xe5 : r4 Tryz.prog 163 fun E => i8 E Ad4 := r8 mx Tryz.func163 (by kernel_rfl) (f8 (by kernel_rfl))
theorem ff5 : r4 Tryz.prog 164 fun E => i8 E Ee6 := r8 mx Tryz.func164 (by kernel_rfl) (f8 (by kernel_rfl))
theorem ff6 : r4 Tryz.prog 165 fun E => i8 E je9 := r8 mx Tryz.func165 (by kernel_rfl) (f8 (by kernel_rfl))
theorem ff7 : r4 Tryz.prog 166 fun E => i8 E Ee7 := r8 mx Tryz.func166 (by kernel_rfl) (f8 (by kernel_rfl))
theorem ff8 : r4 Tryz.prog 167 fun E => i8 E Ee8 := r8 mx Tryz.func167 (by kernel_rfl) (f8 (by kernel_rfl))
theorem ff9 : r4 Tryz.prog 168 fun E => i8 E Ve0 := r8 mx Tryz.func168 (by kernel_rfl) (f8 (by kernel_rfl))
theorem gf0 : r4 Tryz.prog 170 fun E => i8 E Ee9 := r8 mx Tryz.func170 (by kernel_rfl) (f8 (by kernel_rfl))
theorem gf1 : r4 Tryz.prog 171 fun E => i8 E Ve1 := r8 mx Tryz.func171 (by kernel_rfl) (f8 (by kernel_rfl))
theorem gf2 : r4 Tryz.prog 172 fun E => i8 E Ve2 := r8 mx Tryz.func172 (by kernel_rfl) (f8 (by kernel_rfl))
theorem gf3 : r4 Tryz.prog 173 fun E => i8 E Fe0 := r8 mx Tryz.func173 (by kernel_rfl) (f8 (by kernel_rfl))
theorem gf4 : r4 Tryz.prog 174 fun E => i8 E Ve3 := r8 mx Tryz.func174 (by kernel_rfl) (f8 (by kernel_rfl))
theorem gf5 : r4 Tryz.prog 175 fun E => i8 E Ve4 := r8 mx Tryz.func175 (by kernel_rfl) (f8 (by kernel_rfl))
theorem gf6 : r4 Tryz.prog 176 fun E => i8 E Ve5 := r8 mx Tryz.func176 (by kernel_rfl) (f8 (by kernel_rfl))
theorem gf7 : r4 Tryz.prog 177 fun E => i8 E Fe1 := r8 mx Tryz.func177 (by kernel_rfl) (f8 (by kernel_rfl))
theorem gf8 : r4 Tryz.prog 178 fun E => i8 E Fe2 := r8 mx Tryz.func178 (by kernel_rfl) (f8 (by kernel_rfl))
theorem gf9 : r4 Tryz.prog 179 fun E => i8 E Ve6 := r8 mx Tryz.func179 (by kernel_rfl) (f8 (by kernel_rfl))
theorem hf0 : r4 Tryz.prog 180 fun E => i8 E Fe3 := r8 mx Tryz.func180 (by kernel_rfl) (f8 (by kernel_rfl))
theorem hf3 : r4 Tryz.prog 181 fun E => i8 E Ve7 := r8 mx Tryz.func181 (by kernel_rfl) (f8 (by kernel_rfl))
theorem hf4 : r4 Tryz.prog 182 fun E => i8 E Fe4 := r8 mx Tryz.func182 (by kernel_rfl) (f8 (by kernel_rfl))
theorem hf5 : r4 Tryz.prog 183 fun E => i8 E Fe5 := r8 mx Tryz.func183 (by kernel_rfl) (f8 (by kernel_rfl))
theorem hf6 : r4 Tryz.prog 184 fun E => i8 E Fe6 := r8 mx Tryz.func184 (by kernel_rfl) (f8 (by kernel_rfl))
theorem We7 : r4 Tryz.prog 185 fun E => i8 E ke1 := r8 mx Tryz.func185 (by kernel_rfl) (f8 (by kernel_rfl))
theorem hf7 : r4 Tryz.prog 186 fun E => i8 E Ve8 := r8 mx Tryz.func186 (by kernel_rfl) (f8 (by kernel_rfl))
theorem hf8 : r4 Tryz.prog 187 fun E => i8 E Ve9 := r8 mx Tryz.func187 (by kernel_rfl) (f8 (by kernel_rfl))
theorem hf9 : r4 Tryz.prog 194 fun E => i8 E We0 := r8 mx Tryz.func194 (by kernel_rfl) (f8 (by kernel_rfl))
theorem if0 : r4 Tryz.prog 207 fun E => i8 E Fe7 := r8 mx Tryz.func207 (by kernel_rfl) (f8 (by kernel_rfl))
theorem if1 : r4 Tryz.prog 214 fun E => i8 E We1 := r8 mx Tryz.func214 (by kernel_rfl) (f8 (by kernel_rfl))
theorem if2 : r4 Tryz.prog 215 fun E => i8 E We2 := r8 mx Tryz.func215 (by kernel_rfl) (f8 (by kernel_rfl))
theorem if3 : r4 Tryz.prog 217 fun E => i8 E Fe8 := r8 mx Tryz.func217 (by kernel_rfl) (f8 (by kernel_rfl))
theorem if4 : r4 Tryz.prog 218 fun E => i8 E ke2 := r8 mx Tryz.func218 (by kernel_rfl) (f8 (by kernel_rfl))
theorem if5 : r4 Tryz.prog 219 fun E => i8 E We3 := r8 mx Tryz.func219 (by kernel_rfl) (f8 (by kernel_rfl))
theorem if6 : r4 Tryz.prog 220 fun E => i8 E Fe9 := r8 mx Tryz.func220 (by kernel_rfl) (f8 (by kernel_rfl))
theorem if7 : r4 Tryz.prog 221 fun E => i8 E Ge0 := r8 mx Tryz.func221 (by kernel_rfl) (f8 (by kernel_rfl))
theorem if8 : r4 Tryz.prog 222 fun E => i8 E Ge1 := r8 mx Tryz.func222 (by kernel_rfl) (f8 (by kernel_rfl))
theorem if9 : r4 Tryz.prog 230 fun E => i8 E Ge2 := r8 mx Tryz.func230 (by kernel_rfl) (f8 (by kernel_rfl))
theorem jf0 : r4 Tryz.prog 231 fun E => i8 E Ge3 := r8 mx Tryz.func231 (by kernel_rfl) (f8 (by kernel_rfl))
theorem b89 : r4 Tryz.prog 89 fun E => Pb6 E xe3 := Ee2 (h := h89) Tryz.func89 (by kernel_rfl) Tryz.func217 (by kernel_rfl) (f8 (by kernel_rfl))
theorem jf1 : r4 Tryz.prog 169 fun E => Pb6 E ke0 := Ee2 (h := Se3) Tryz.func169 (by kernel_rfl) Tryz.func216 (by kernel_rfl) (f8 (by kernel_rfl))
end Go.Ev.Ce
end
namespace Go.Ev.L
open Go Go.Ev
noncomputable def Pb8 : RT → PC → PS2
 | .s a b, .seq x y => .seq (Pb8 a x) (Pb8 b y)
 | .c a b, .cond g x y => .cond g (Pb8 a x) (Pb8 b y)
 | .b a, .block id x => .block id (Pb8 a x)
 | .i a, .inner f x n c => .inner f x n (Pb8 a c)
 | .u S, _ => .sum S
 | _, c => .pc c
theorem od0 {E : Env} {k : Nat} (rt : RT) (c : PC) : Pa3 (fun x => ∀ s, Y0 (x.1 s) (O2 E k x.2 s)) (Yb4 rt c) → ja1 E k (Pb8 rt c) c := by
 induction rt generalizing c with
 | p => intro h; cases c <;> exact .pc _
 | s a b iha ihb =>
  intro h
  cases c with
  | seq x y => exact .seq (iha x (Pa3.app h).1) (ihb y (Pa3.app h).2)
  | _ => exact .pc _
 | c a b iha ihb =>
  intro h
  cases c with
  | cond g x y => exact .cond g (iha x (Pa3.app h).1) (ihb y (Pa3.app h).2)
  | _ => exact .pc _
 | b a iha =>
  intro h
  cases c with
  | block id x => exact .block id (iha x h)
  | _ => exact .pc _
 | l a iha => intro h; cases c <;> exact .pc _
 | i a iha =>
  intro h
  cases c with
  | inner f x n c => exact .inner f x n (iha c h)
  | _ => exact .pc _
 | u S =>
  intro h
  have : Yb4 (.u S) c = [(S, c)] := by cases c <;> rfl
  rw [this] at h
  cases h with
  | cons h t =>
   have e : Pb8 (.u S) c = .sum S := by cases c <;> rfl
   rw [e]
   exact .sum h
section
variable {π σ : Type} {E : Env} {k : Nat} {keep : List Nat} {alts : List (Al2 π σ)} {enc : π → σ → St} {step : π → σ → Stp σ} {xs : Xs π σ} {body : PS2} {c : PC}
theorem Ob8.belowM (hb : ja1 E k body c) (hN : E.N = rounds + 1) (w : Ob8 Ad2 k keep (tc6 E k body) alts step xs enc) (s : St) : Y0 (fd9 Ad2 k keep alts step xs s) (O2 E k (.loopM keep c) s) := fun r hr => by
 obtain ⟨t, h1, h2⟩ := w.go hr
 rw [Md9, hN]
 exact Eb3 hb.le _ _ _ (Vb3 h1 h2)
theorem Ob8.belowML (hb : ja1 E k body c) (hN : E.N = rounds + 1) (w : Ob8 Ob5 k keep (tc6 E k body) alts step xs enc) (s : St) : Y0 (fd9 Ob5 k keep alts step xs s) (O2 E k (.loop keep c) s) := fun r hr => by
 obtain ⟨t, h1, h2⟩ := w.go hr
 rw [fd8, hN]
 exact Eb3 hb.le _ _ _ (Vb3 h1 h2)
end
end Go.Ev.L
namespace Go.Ev.Ab
open Go Go.Ev
@[reducible] def o (d : Nat) (x : PO) : PI := ⟨some d, none, [], x⟩
@[reducible] def s (x : PO) : PI := ⟨none, none, [], x⟩
@[reducible] def cb (b : Bool) : Arg := .c (.v (.bool b))
@[reducible] def vi (n : Int) : b7 := .v (.int .i64 n)
@[reducible] def rep {α : Type} (n : Nat) (x : α) : List α := List.replicate n x
@[reducible] def ki (n : Nat) : List CK := List.replicate n (.int .i64)
@[reducible] def mv (d n : Nat) : PI := o d (.mv (.t n))
@[reducible] def mb (d : Nat) (x : Bool) : PI := o d (.mv (cb x))
@[reducible] def fd (d k n : Nat) : PI := o d (.fld k (.t n))
@[reducible] def lf (d k n : Nat) : PI := o d (.load (ki k) k false (.t n))
@[reducible] def ex (d x k : Nat) : PI := o d (.ext (.t x) k)
@[reducible] def gf (n : Nat) (x : PI) : PI := ⟨x.dst, some (n, false), x.hide, x.op⟩
@[reducible] def so (l : List PI) (x : PC) : PC := .seq (.ops l) x
@[reducible] def ts (l : List Nat) : List Arg := l.map .t
@[reducible] def cl (f : Nat) (l : List Nat) : PO := .call f (ts l)
@[reducible] def sT (k a b : Nat) : PI := s (.store k (.t a) (.t b))
@[reducible] def pa (d c x : Nat) : PI := o d (.pick (.t c) (.t x) (cb false))
@[reducible] def po (d c x : Nat) : PI := o d (.pick (.t c) (cb true) (.t x))
@[reducible] def al (d k : Nat) (n : Int) : PI := o d (.alloc (rep k (vi n)))
@[reducible] def ap (d et es n x y : Nat) : PI := o d (.append et es n (.t x) (.t y))
end Go.Ev.Ab
namespace Go.Ev.L
open Go Go.Ev
def Cps {π σ : Type} (u : ∀ {α : Type}, (σ → α) → (Nat → α) → α → π → σ → α) : Prop :=
 ∀ {α β : Type} (F : α → β) (k : σ → α) (e : Nat → α) (z : α) (p : π) (s : σ), F (u k e z p s) = u (fun x => F (k x)) (fun t => F (e t)) (F z) p s
@[reducible] noncomputable def foL {π σ : Type} (en : π → σ → St) (xs : Xs π σ) (p : π) (s : σ) : Stp σ → Option (c9 × St) := Ob6 (fun s' => some (.normal, en p s')) (fun t => xOf xs p s t 1) none
structure Lo (π σ : Type) where
 E : Env
 k : Nat
 F : PFn
 at' : List Nat
 kp : List Nat
 rt : RT
 al : List (Al2 π σ)
 st : π → σ → Stp σ
 xs : Xs π σ
 en : π → σ → St
namespace Lo
variable {π σ : Type} (L : Lo π σ)
noncomputable def lc : PC := af2 L.at' L.F.body
noncomputable def ls : St → DT (c9 × St) := fd9 Ob5 L.k L.kp L.al L.st L.xs
noncomputable def lsM : St → DT (c9 × St) := fd9 Ad2 L.k L.kp L.al L.st L.xs
noncomputable def pr : (St → DT (c9 × St)) × PC := (L.ls, .loop L.kp L.lc)
noncomputable def prM : (St → DT (c9 × St)) × PC := (L.lsM, .loopM L.kp L.lc)
def Ok : Prop := ∀ s, da7 L.k L.F.res (L.pr.1 s) (O2 L.E L.k L.pr.2 s)
def OkE : Prop := ∀ s, Y0 (L.pr.1 s) (O2 L.E L.k L.pr.2 s)
def OkM : Prop := ∀ s, Y0 (L.prM.1 s) (O2 L.E L.k L.prM.2 s)
def Rd (hd : St → DT St) (bd : St → DT (c9 × St)) (p : π) (s : σ) (a : St) (b : Stp σ) : Prop := (Eb4 hd bd a).run = foL L.en L.xs p s b
def H0 : Prop := ∀ p s, L.Rd (Ob5 L.k L.kp) (Rd0 L.E L.k L.F.res (Wc5 L.rt L.lc)) p s (L.en p s) (L.st p s)
def H1 : Prop := ∀ p s, L.Rd (Ob5 L.k L.kp) (tc6 L.E L.k (Pb8 L.rt L.lc)) p s (L.en p s) (L.st p s)
def H2 : Prop := ∀ p s, L.Rd (Ad2 L.k L.kp) (tc6 L.E L.k (Pb8 L.rt L.lc)) p s (L.en p s) (L.st p s)
def HA : Prop := Pa3 (fun x => ∀ a H, (⟨Zd5 x.sh a, Zd6 x.bl H⟩ : St) = L.en (x.rd a H).1 (x.rd a H).2) L.al
variable {L}
theorem Rd.of {hd : St → DT St} {bd : St → DT (c9 × St)} {p : π} {s : σ} {a : St} (u : ∀ {α : Type}, (σ → α) → (Nat → α) → α → π → σ → α)
  (q : Cps @u) (H : (Eb4 hd bd a).run = u (fun x => foL L.en L.xs p s (.next x)) (fun t => foL L.en L.xs p s (.exit t)) (foL L.en L.xs p s .fail) p s) : L.Rd hd bd p s a (u .next .exit .fail p s) :=
 H.trans (q (foL L.en L.xs p s) Stp.next Stp.exit Stp.fail p s).symm
theorem Rd.sel {hd : St → DT St} {bd : St → DT (c9 × St)} {p : π} {s : σ} {a1 a0 : St} {b1 b0 : Stp σ} (c : Bool) (h1 : L.Rd hd bd p s a1 b1) (h0 : L.Rd hd bd p s a0 b0) : L.Rd hd bd p s (sel c a1 a0) (sel c b1 b0) := by
 cases c with
 | true => exact h1
 | false => exact h0
theorem ok (l : List ((St → DT (c9 × St)) × PC)) (hs : Yb4 L.rt L.lc = l) (hl : Pa3 (fun x => ∀ s, da7 L.k L.F.res (x.1 s) (O2 L.E L.k x.2 s)) l) (hN : L.E.N = rounds + 1) (ha : L.HA) (h : L.H0) : L.Ok :=
 Ob8.belowC (Rd7 _ _ (by rw [hs]; exact hl)) hN ⟨ha, h⟩
theorem okE (l : List ((St → DT (c9 × St)) × PC)) (hs : Yb4 L.rt L.lc = l) (hl : Pa3 (fun x => ∀ s, Y0 (x.1 s) (O2 L.E L.k x.2 s)) l) (hN : L.E.N = rounds + 1) (ha : L.HA) (h : L.H1) : L.OkE :=
 Ob8.belowML (od0 _ _ (by rw [hs]; exact hl)) hN ⟨ha, h⟩
theorem okM (l : List ((St → DT (c9 × St)) × PC)) (hs : Yb4 L.rt L.lc = l) (hl : Pa3 (fun x => ∀ s, Y0 (x.1 s) (O2 L.E L.k x.2 s)) l) (hN : L.E.N = rounds + 1) (ha : L.HA) (h : L.H2) : L.OkM :=
 Ob8.belowM (od0 _ _ (by rw [hs]; exact hl)) hN ⟨ha, h⟩
end Lo
theorem sa6 {E : Env} {F : PFn} {args : List b7} {blks : List b8} {o : Option (b7 × List b8)} (rt : RT) (l : List ((St → DT (c9 × St)) × PC)) (hs : Yb4 rt F.body = l)
  (hl : Pa3 (fun x => ∀ s, da7 (len blks) F.res (x.1 s) (O2 E (len blks) x.2 s)) l) (h : (Re3 E F (Wc5 rt F.body) args blks).run = o) (r : b7 × List b8) (hr : o = some r) : (i8 E F args blks).run = some r :=
 Ld6 (Rd7 rt _ (by rw [hs]; exact hl)) r (h.trans hr)
theorem Ge4 {E : Env} {F : PFn} {args : List b7} {blks : List b8} {o : Option (b7 × List b8)} (rt : RT) (l : List ((St → DT (c9 × St)) × PC)) (hs : Yb4 rt F.body = l)
  (hl : Pa3 (fun x => ∀ s, Y0 (x.1 s) (O2 E (len blks) x.2 s)) l) (h : (Ee1 E F (Pb8 rt F.body) args blks).run = o) (r : b7 × List b8) (hr : o = some r) : (Pb6 E F args blks).run = some r :=
 Ad1 (od0 rt _ (by rw [hs]; exact hl)) r (h.trans hr)
theorem r9 {A o : Option (b7 × List b8)} (h : A = o) (r : b7 × List b8) (hr : o = some r) : A = some r := h.trans hr
end Go.Ev.L
namespace Go.Ev.Ce
structure V3 where
 x : Int
 y : Int
 z : Int
structure Pln where
 n : V3
 b : Int
structure Pt where
 px : Int
 py : Int
 pz : Int
 pw : Int
def p7 (a b : V3) : V3 := ⟨a.y * b.z - a.z * b.y, a.z * b.x - a.x * b.z, a.x * b.y - a.y * b.x⟩
def dot (a b : V3) : Int := a.x * b.x + a.y * b.y + a.z * b.z
def mw (p q r : Pln) : Int := dot p.n (p7 q.n r.n)
end Go.Ev.Ce
namespace Go.Ev.Ce
open Go Go.Ev Go.Ev.L Go.Proofs
@[reducible] noncomputable def prog : Program := Tryz.prog
noncomputable def G : Nat → List Value := fun _ => []
noncomputable def En (l : List (Nat × Sum)) : Env := { P := prog, G, fns := fun _ => none, call := Je3 l, own := fun f j => Bool.and (Ya5 f [99, 103, 105, 135, 163, 198, 200, 202]) (Nat.beq j 0), N := 18446744073709551616 }
@[reducible] def u : b7 := .v (.tuple #[])
theorem We8 {l : List (Nat × Sum)} (h : i6 prog G l) : ∀ f, g9 (En l).P (En l).G f ((En l).call f) := Qd8 h
theorem bd {l : List (Nat × Sum)} {f : FuncId} {R : Env → Sum} (b : r4 prog f R) (h : i6 prog G l) : g9 prog G f (R (En l)) := b rfl (We8 h)
noncomputable def tV : Ty V3 where
 es := 3
 row x := [i x.x, i x.y, i x.z]
 rd r := ⟨toI (hdA r), toI (hdA (tlA r)), toI (hdA (tlA (tlA r)))⟩
 ok r := za8 3 r
 cks := List.replicate 3 (.int .i64)
 d := ⟨0, 0, 0⟩
 h0 _ := rfl
 h1 _ := rfl
 h2 _ := rfl
 h3 _ h := .of (Ma8 h)
 h4 _ := rfl
 h5 _ := rfl
noncomputable def r1V : R1 V3 := r1A tV 3 fun _ h => h
noncomputable def tP : Ty Pln where
 es := 4
 row x := [i x.n.x, i x.n.y, i x.n.z, i x.b]
 rd r := ⟨⟨toI (hdA r), toI (hdA (tlA r)), toI (hdA (tlA (tlA r)))⟩, toI (hdA (tlA (tlA (tlA r))))⟩
 ok r := za8 4 r
 cks := List.replicate 4 (.int .i64)
 d := ⟨⟨0, 0, 0⟩, 0⟩
 h0 _ := rfl
 h1 _ := rfl
 h2 _ := rfl
 h3 _ h := .of (Ma8 h)
 h4 _ := rfl
 h5 _ := rfl
noncomputable def r1P : R1 Pln := r1A tP 4 fun _ h => h
noncomputable def tX : Ty Pt where
 es := 4
 row x := [i x.px, i x.py, i x.pz, i x.pw]
 rd r := ⟨toI (hdA r), toI (hdA (tlA r)), toI (hdA (tlA (tlA r))), toI (hdA (tlA (tlA (tlA r))))⟩
 ok r := za8 4 r
 cks := List.replicate 4 (.int .i64)
 d := ⟨0, 0, 0, 0⟩
 h0 _ := rfl
 h1 _ := rfl
 h2 _ := rfl
 h3 _ h := .of (Ma8 h)
 h4 _ := rfl
 h5 _ := rfl
noncomputable def r1X : R1 Pt := r1A tX 4 fun _ h => h
structure Tp where
 p : Pln
 q : Pln
 r : Pln
noncomputable def tY : Ty Tp where
 es := 12
 row x := [i x.p.n.x, i x.p.n.y, i x.p.n.z, i x.p.b, i x.q.n.x, i x.q.n.y, i x.q.n.z, i x.q.b, i x.r.n.x, i x.r.n.y, i x.r.n.z, i x.r.b]
 rd r := ⟨⟨⟨toI (hdA r), toI (hdA (tlA r)), toI (hdA (tlA (tlA r)))⟩, toI (hdA (tlA (tlA (tlA r))))⟩, ⟨⟨toI (hdA (tlA (tlA (tlA (tlA r))))), toI (hdA (tlA (tlA (tlA (tlA (tlA r)))))), toI (hdA (tlA (tlA (tlA (tlA (tlA (tlA r)))))))⟩, toI (hdA (tlA (tlA (tlA (tlA (tlA (tlA (tlA r))))))))⟩, ⟨⟨toI (hdA (tlA (tlA (tlA (tlA (tlA (tlA (tlA (tlA r))))))))), toI (hdA (tlA (tlA (tlA (tlA (tlA (tlA (tlA (tlA (tlA r)))))))))), toI (hdA (tlA (tlA (tlA (tlA (tlA (tlA (tlA (tlA (tlA (tlA r)))))))))))⟩, toI (hdA (tlA (tlA (tlA (tlA (tlA (tlA (tlA (tlA (tlA (tlA (tlA r))))))))))))⟩⟩
 ok r := za8 12 r
 cks := List.replicate 12 (.int .i64)
 d := ⟨⟨⟨0, 0, 0⟩, 0⟩, ⟨⟨0, 0, 0⟩, 0⟩, ⟨⟨0, 0, 0⟩, 0⟩⟩
 h0 _ := rfl
 h1 _ := rfl
 h2 _ := rfl
 h3 _ h := .of (Ma8 h)
 h4 _ := rfl
 h5 _ := rfl
structure Q2 where
 a : V3
 b : V3
noncomputable def tQ : Ty Q2 where
 es := 6
 row x := [i x.a.x, i x.a.y, i x.a.z, i x.b.x, i x.b.y, i x.b.z]
 rd r := ⟨⟨toI (hdA r), toI (hdA (tlA r)), toI (hdA (tlA (tlA r)))⟩, ⟨toI (hdA (tlA (tlA (tlA r)))), toI (hdA (tlA (tlA (tlA (tlA r))))), toI (hdA (tlA (tlA (tlA (tlA (tlA r))))))⟩⟩
 ok r := za8 6 r
 cks := List.replicate 6 (.int .i64)
 d := ⟨⟨0, 0, 0⟩, ⟨0, 0, 0⟩⟩
 h0 _ := rfl
 h1 _ := rfl
 h2 _ := rfl
 h3 _ h := .of (Ma8 h)
 h4 _ := rfl
 h5 _ := rfl
end Go.Ev.Ce
section
namespace Go.Ev.Ce
open Go Go.Ev Go.Ev.L Go.Proofs
set_option maxRecDepth 100000
noncomputable def Ad5 : List (Nat × Sum) := []
theorem od1 : i6 prog G Ad5 := trivial
noncomputable def La8 (x : Pln) (y : Pt) : Int := (W ((W ((W ((W (x.b * y.pw)) - (W (x.n.x * y.px)))) - (W (x.n.y * y.py)))) - (W (x.n.z * y.pz))))
noncomputable def Fb1 : Sum := oa1 (R4 tP) (R4 tX) (fun x y => .ret ((one r1I).enc (La8 x y), []))
theorem Pb9 : g9 prog G 37 Fb1 := Ea1 (bd b37 od1) fun x y => r9 (by kernel_rfl)
noncomputable def Nd0 : List (Nat × Sum) := []
theorem Ad6 : i6 prog G Nd0 := trivial
noncomputable def jb9 (x : V3) (y : V3) : V3 := (⟨(W (x.x + y.x)), (W (x.y + y.y)), (W (x.z + y.z))⟩ : V3)
noncomputable def gd7 : Sum := oa1 (R4 tV) (R4 tV) (fun x y => .ret ((one r1V).enc (jb9 x y), []))
theorem Nd1 : g9 prog G 126 gd7 := Ea1 (bd ff0 Ad6) fun x y => r9 (by kernel_rfl)
noncomputable def Nd2 : List (Nat × Sum) := []
theorem Ad7 : i6 prog G Nd2 := trivial
noncomputable def Na0 (x : V3) (y : V3) : Int := (W ((W ((W (x.x * y.x)) + (W (x.y * y.y)))) + (W (x.z * y.z))))
noncomputable def Wb0 : Sum := oa1 (R4 tV) (R4 tV) (fun x y => .ret ((one r1I).enc (Na0 x y), []))
theorem ec0 : g9 prog G 130 Wb0 := Ea1 (bd ff2 Ad7) fun x y => r9 (by kernel_rfl)
noncomputable def od2 : List (Nat × Sum) := []
theorem Wc6 : i6 prog G od2 := trivial
noncomputable def T9 (x : V3) (y : V3) : V3 := (⟨(W ((W (x.y * y.z)) - (W (x.z * y.y)))), (W ((W (x.z * y.x)) - (W (x.x * y.z)))), (W ((W (x.x * y.y)) - (W (x.y * y.x))))⟩ : V3)
noncomputable def Qb0 : Sum := oa1 (R4 tV) (R4 tV) (fun x y => .ret ((one r1V).enc (T9 x y), []))
theorem lc4 : g9 prog G 186 Qb0 := Ea1 (bd hf7 Wc6) fun x y => r9 (by kernel_rfl)
noncomputable def Wc7 : List (Nat × Sum) := []
theorem Mc5 : i6 prog G Wc7 := trivial
noncomputable def R5 (x : V3) (y : Int) : V3 := (⟨(W (x.x * y)), (W (x.y * y)), (W (x.z * y))⟩ : V3)
noncomputable def lc5 : Sum := oa1 (R4 tV) cI (fun x y => .ret ((one r1V).enc (R5 x y), []))
theorem Wc8 : g9 prog G 219 lc5 := Ea1 (bd if5 Mc5) fun x y => r9 (by kernel_rfl)
noncomputable def ac8 : List (Nat × Sum) := []
theorem Mc6 : i6 prog G ac8 := trivial
structure Aa0 where
structure Z6 where
 is0 : Int
 is1 : Int
noncomputable def Bc8 (p : Aa0) (s : Z6) : St := ⟨((i s.is0) :: ((i s.is1) :: (ra 10 []))), []⟩
noncomputable def pa8 {α : Type} (k : Z6 → α) (e : Nat → α) (z : α) (p : Aa0) (s : Z6) : α := (sl (s.is1 != 0) (sl (s.is1 == 0) z (k ⟨s.is1, (Int.tmod s.is0 s.is1)⟩)) (e 1))
noncomputable def ua8 (p : Aa0) (s : Z6) : Stp Z6 := pa8 .next .exit .fail p s
noncomputable def lb8 : Lo Aa0 Z6 := ⟨En ac8, 0, Fe9, [1, 0, 4, 4], [0, 1], .p, [⟨((.s (.o (.int .i64))) :: ((.s (.o (.int .i64))) :: (ru2 10 []))), [], fun a H => (⟨⟩, ⟨(toI (slT a 0)), (toI (slT a 1))⟩)⟩], ua8, [(some 0, fun p s => ⟨((i s.is0) :: ((i s.is1) :: (ra 3 ((i s.is1) :: ((b (s.is1 != 0)) :: (ra 5 [])))))), []⟩)], Bc8⟩
theorem Bc9 : lb8.Ok := Lo.ok [] (by kernel_rfl) .nil rfl (.cons (fun a H => by kernel_rfl) .nil) fun p s => (.of @pa8 (fun F _ _ _ _ _ => by unfold pa8; (repeat' apply k9 (f := F)) <;> rfl) (by kernel_rfl))
noncomputable def Pa5 (x : Int) (y : Int) : Option (b7 × List b8) := let t1 := (lp (ua8 (⟨⟩ : Aa0)) (⟨x, y⟩ : Z6)); (sl (Nat.beq t1.1 1) (some ((i t1.2.is0), [])) none)
noncomputable def R6 (x : Int) (y : Int) : Int := K5 (one r1I) (Pa5 x y)
noncomputable def R7 (x : Int) (y : Int) : Bool := okO (one r1I) (Pa5 x y)
noncomputable def lc6 : Sum := oa1 cI cI (fun x y => .guard (R7 x y) (.ret ((one r1I).enc (R6 x y), [])))
theorem Wc9 : g9 prog G 220 lc6 := gb5 (bd if6 Mc6) (one r1I) (o := Pa5) fun x y => sa6 (.s .p (.s (.b (.u lb8.ls)) .p)) [lb8.pr] (by kernel_rfl) (.cons Bc9 .nil) (by kernel_rfl)
noncomputable def Ad8 : List (Nat × Sum) := [(186, Qb0), (130, Wb0), (219, lc5), (126, gd7), (220, lc6)]
theorem od3 : i6 prog G Ad8 := ⟨lc4, ec0, Wc8, Nd1, Wc9, trivial⟩
noncomputable def lb9 (x : Pln) (y : Pln) (z : Pln) : Option (b7 × List b8) := let t1 := (T9 y.n z.n); let t2 := (Na0 x.n t1); let t3 := (R5 t1 x.b); let t4 := (T9 z.n x.n); let t5 := (R5 t4 y.b); let t6 := (jb9 t3 t5); let t7 := (T9 x.n y.n); let t8 := (R5 t7 z.b); let t9 := (jb9 t6 t8); let t10 := (R5 t9 (-1)); let t11 := (R6 (if (W (0 - t10.x)) > t10.x then (W (0 - t10.x)) else t10.x) (if (W (0 - t10.y)) > t10.y then (W (0 - t10.y)) else t10.y)); let t12 := (R6 (if (W (0 - t10.z)) > t10.z then (W (0 - t10.z)) else t10.z) (W (0 - t2))); let t13 := (R6 t11 t12); let t14 := (R6 (if (W (0 - t9.x)) > t9.x then (W (0 - t9.x)) else t9.x) (if (W (0 - t9.y)) > t9.y then (W (0 - t9.y)) else t9.y)); let t15 := (R6 (if (W (0 - t9.z)) > t9.z then (W (0 - t9.z)) else t9.z) t2); let t16 := (R6 t14 t15); (sl (t2 == 0) (some ((.tup [(.agg [(i 0), (i 0), (i 0), (i 0)]), (b false)]), [])) (sl (decide (t2 < 0)) (sl (R7 (if (W (0 - t10.x)) > t10.x then (W (0 - t10.x)) else t10.x) (if (W (0 - t10.y)) > t10.y then (W (0 - t10.y)) else t10.y)) (sl (R7 (if (W (0 - t10.z)) > t10.z then (W (0 - t10.z)) else t10.z) (W (0 - t2))) (sl (R7 t11 t12) (sl (t13 == 0) none (sl (t13 == 0) none (sl (t13 == 0) none (sl (t13 == 0) none (some ((.tup [(.agg [(i (W (Int.tdiv t10.x t13))), (i (W (Int.tdiv t10.y t13))), (i (W (Int.tdiv t10.z t13))), (i (W (Int.tdiv (W (0 - t2)) t13)))]), (b true)]), [])))))) none) none) none) (sl (R7 (if (W (0 - t9.x)) > t9.x then (W (0 - t9.x)) else t9.x) (if (W (0 - t9.y)) > t9.y then (W (0 - t9.y)) else t9.y)) (sl (R7 (if (W (0 - t9.z)) > t9.z then (W (0 - t9.z)) else t9.z) t2) (sl (R7 t14 t15) (sl (t16 == 0) none (sl (t16 == 0) none (sl (t16 == 0) none (sl (t16 == 0) none (some ((.tup [(.agg [(i (W (Int.tdiv t9.x t16))), (i (W (Int.tdiv t9.y t16))), (i (W (Int.tdiv t9.z t16))), (i (W (Int.tdiv t2 t16)))]), (b true)]), [])))))) none) none) none)))
noncomputable def mb0 (x : Pln) (y : Pln) (z : Pln) : Pt × Bool := K5 (two r1X r1B) (lb9 x y z)
noncomputable def mb1 (x : Pln) (y : Pln) (z : Pln) : Bool := okO (two r1X r1B) (lb9 x y z)
noncomputable def Mc7 : Sum := Wc4 (R4 tP) (R4 tP) (R4 tP) (fun x y z => .guard (mb1 x y z) (.ret ((two r1X r1B).enc (mb0 x y z), [])))
theorem Ad9 : g9 prog G 172 Mc7 := Je8 (bd gf2 od3) (two r1X r1B) (o := lb9) fun x y z => r9 (by kernel_rfl)
noncomputable def gd8 : List (Nat × Sum) := [(37, Fb1)]
theorem Nd3 : i6 prog G gd8 := ⟨Pb9, trivial⟩
structure mb2 where
 c7 : List Pln
 f9 : Int
 b9 : Int
 g7 : Int
 d9 : Int
structure ta3 where
 is5 : Int
noncomputable def Bd0 (p : mb2) (s : ta3) : St := ⟨((eL tP p.c7) :: (.unk :: (.unk :: ((.ptr 0 0 0 0) :: (.unk :: ((i s.is5) :: (ra 13 []))))))), [⟨0, 4, [[(i p.f9), (i p.b9), (i p.g7), (i p.d9)]], true, false, 0⟩]⟩
noncomputable def Pa6 {α : Type} (k : ta3 → α) (e : Nat → α) (z : α) (p : mb2) (s : ta3) : α := let t1 := (La8 (gL tP p.c7 s.is5.toNat) (⟨p.f9, p.b9, p.g7, p.d9⟩ : Pt)); (sl (decide (s.is5 < (↑(List.length p.c7) : Int))) (sl (inB s.is5 (List.length p.c7)) (sl (decide (t1 < 0)) (e 1) (k ⟨(W (s.is5 + 1))⟩)) z) (e 2))
noncomputable def Ya9 (p : mb2) (s : ta3) : Stp ta3 := Pa6 .next .exit .fail p s
noncomputable def ec1 : Lo mb2 ta3 := ⟨En gd8, 0, Ee5, [1, 0, 1, 4, 4], [0, 3, 5], .p, [⟨((.s (.c 4 (nL tP))) :: ((.s (.o .unk)) :: ((.s (.o .unk)) :: ((.s (.o (.ptr 0 0 0 0))) :: ((.s (.o .unk)) :: ((.s (.o (.int .i64))) :: (ru2 13 []))))))), [⟨0, 4, true, (some [[(.o (.int .i64)), (.o (.int .i64)), (.o (.int .i64)), (.o (.int .i64))]])⟩], fun a H => (⟨(rL tP (slT a 0)), (toI (slT (rwT (elT H 0) 0) 0)), (toI (slT (rwT (elT H 0) 0) 1)), (toI (slT (rwT (elT H 0) 0) 2)), (toI (slT (rwT (elT H 0) 0) 3))⟩, ⟨(toI (slT a 5))⟩)⟩], Ya9, [(none, fun p s => ⟨[(b false)], []⟩), (some 0, fun p s => ⟨((eL tP p.c7) :: (.unk :: (.unk :: ((.ptr 0 0 0 0) :: (.unk :: ((i s.is5) :: ((i s.is5) :: ((eL tP p.c7) :: ((i (↑(List.length p.c7) : Int)) :: ((b (decide (s.is5 < (↑(List.length p.c7) : Int)))) :: (ra 9 []))))))))))), [⟨0, 4, [[(i p.f9), (i p.b9), (i p.g7), (i p.d9)]], true, false, 0⟩]⟩)], Bd0⟩
theorem Bd1 : ec1.Ok := Lo.ok [] (by kernel_rfl) .nil rfl (.cons (fun a H => by kernel_rfl) .nil) fun p s => (.of @Pa6 (fun F _ _ _ _ _ => by unfold Pa6; (repeat' apply k9 (f := F)) <;> rfl) (by kernel_rfl))
noncomputable def Qb1 (x : List Pln) (y : Pt) : Option (b7 × List b8) := let t1 := (lp (Ya9 (⟨(rt tP x), y.px, y.py, y.pz, y.pw⟩ : mb2)) (⟨0⟩ : ta3)); (sl ((cnE tP x) && true) (sl (Nat.beq t1.1 1) (some ((b false), [])) (sl (Nat.beq t1.1 2) (some ((b true), [])) none)) none)
noncomputable def mb3 (x : List Pln) (y : Pt) : Bool := K5 (one r1B) (Qb1 x y)
noncomputable def mb4 (x : List Pln) (y : Pt) : Bool := okO (one r1B) (Qb1 x y)
noncomputable def Mc8 : Sum := oa1 (W7 tP) (R4 tX) (fun x y => .guard (mb4 x y) (.ret ((one r1B).enc (mb3 x y), [])))
theorem gd9 : g9 prog G 110 Mc8 := gb5 (bd ef3 Nd3) (one r1B) (o := Qb1) fun x y => sa6 (.s .p (.s (.s .p (.b (.u ec1.ls))) .p)) [ec1.pr] (by kernel_rfl) (.cons Bd1 .nil) (by kernel_rfl)
noncomputable def lc7 : List (Nat × Sum) := []
theorem Xc0 : i6 prog G lc7 := trivial
structure Ga9 where
 B3 : List Pt
 f9 : Int
 b9 : Int
 g7 : Int
 d9 : Int
structure Y1 where
 is5 : Int
noncomputable def Mc9 (p : Ga9) (s : Y1) : St := ⟨((eL tX p.B3) :: (.unk :: (.unk :: ((.ptr 0 0 0 0) :: (.unk :: ((i s.is5) :: (ra 12 []))))))), [⟨0, 4, [[(i p.f9), (i p.b9), (i p.g7), (i p.d9)]], true, false, 0⟩]⟩
noncomputable def ua9 {α : Type} (k : Y1 → α) (e : Nat → α) (z : α) (p : Ga9) (s : Y1) : α := (sl (decide (s.is5 < (↑(List.length p.B3) : Int))) (sl (inB s.is5 (List.length p.B3)) (sl (((gL tX p.B3 s.is5.toNat).px == p.f9) && (((gL tX p.B3 s.is5.toNat).py == p.b9) && (((gL tX p.B3 s.is5.toNat).pz == p.g7) && (((gL tX p.B3 s.is5.toNat).pw == p.d9) && true)))) (e 1) (k ⟨(W (s.is5 + 1))⟩)) z) (e 2))
noncomputable def Aa1 (p : Ga9) (s : Y1) : Stp Y1 := ua9 .next .exit .fail p s
noncomputable def wb4 : Lo Ga9 Y1 := ⟨En lc7, 0, Fe0, [1, 0, 1, 4, 4], [0, 3, 5], .p, [⟨((.s (.c 4 (nL tX))) :: ((.s (.o .unk)) :: ((.s (.o .unk)) :: ((.s (.o (.ptr 0 0 0 0))) :: ((.s (.o .unk)) :: ((.s (.o (.int .i64))) :: (ru2 12 []))))))), [⟨0, 4, true, (some [[(.o (.int .i64)), (.o (.int .i64)), (.o (.int .i64)), (.o (.int .i64))]])⟩], fun a H => (⟨(rL tX (slT a 0)), (toI (slT (rwT (elT H 0) 0) 0)), (toI (slT (rwT (elT H 0) 0) 1)), (toI (slT (rwT (elT H 0) 0) 2)), (toI (slT (rwT (elT H 0) 0) 3))⟩, ⟨(toI (slT a 5))⟩)⟩], Aa1, [(none, fun p s => ⟨[(b true)], []⟩), (some 0, fun p s => ⟨((eL tX p.B3) :: (.unk :: (.unk :: ((.ptr 0 0 0 0) :: (.unk :: ((i s.is5) :: ((i s.is5) :: ((eL tX p.B3) :: ((i (↑(List.length p.B3) : Int)) :: ((b (decide (s.is5 < (↑(List.length p.B3) : Int)))) :: (ra 8 []))))))))))), [⟨0, 4, [[(i p.f9), (i p.b9), (i p.g7), (i p.d9)]], true, false, 0⟩]⟩)], Mc9⟩
theorem Nc0 : wb4.Ok := Lo.ok [] (by kernel_rfl) .nil rfl (.cons (fun a H => by kernel_rfl) .nil) fun p s => (.of @ua9 (fun F _ _ _ _ _ => by unfold ua9; (repeat' apply k9 (f := F)) <;> rfl) (by kernel_rfl))
noncomputable def Za0 (x : List Pt) (y : Pt) : Option (b7 × List b8) := let t1 := (lp (Aa1 (⟨(rt tX x), y.px, y.py, y.pz, y.pw⟩ : Ga9)) (⟨0⟩ : Y1)); (sl ((cnE tX x) && true) (sl (Nat.beq t1.1 1) (some ((b true), [])) (sl (Nat.beq t1.1 2) (some ((b false), [])) none)) none)
noncomputable def Na1 (x : List Pt) (y : Pt) : Bool := K5 (one r1B) (Za0 x y)
noncomputable def Na2 (x : List Pt) (y : Pt) : Bool := okO (one r1B) (Za0 x y)
noncomputable def yc9 : Sum := oa1 (W7 tX) (R4 tX) (fun x y => .guard (Na2 x y) (.ret ((one r1B).enc (Na1 x y), [])))
theorem od4 : g9 prog G 173 yc9 := gb5 (bd gf3 Xc0) (one r1B) (o := Za0) fun x y => sa6 (.s .p (.s (.s .p (.b (.u wb4.ls))) .p)) [wb4.pr] (by kernel_rfl) (.cons Nc0 .nil) (by kernel_rfl)
noncomputable def Pa7 : List (Nat × Sum) := [(172, Mc7), (110, Mc8), (173, yc9)]
theorem Cc0 : i6 prog G Pa7 := ⟨Ad9, gd9, od4, trivial⟩
structure M8 where
 c7 : List Pln
 is4 : Int
 is5 : Int
structure r5 where
 ph : Nat
 is6 : Int
 ns3 : Nat
 eh0 : List (List b7)
noncomputable def lc8 (p : M8) (s : r5) : St := ⟨((eL tP p.c7) :: (.unk :: (.unk :: ((.v (.slice none 0 0)) :: ((i p.is4) :: ((i p.is5) :: ((i s.is6) :: (ra 57 [])))))))), []⟩
noncomputable def lc9 (p : M8) (s : r5) : St := ⟨((eL tP p.c7) :: (.unk :: (.unk :: ((.sl 0 0 s.ns3 0) :: ((i p.is4) :: ((i p.is5) :: ((i s.is6) :: (ra 57 [])))))))), [⟨54, 4, s.eh0, true, false, 0⟩]⟩
noncomputable def tc7 (p : M8) (s : r5) : St := (sel (Nat.beq s.ph 1) (lc9 p s) (lc8 p s))
noncomputable def R8 {α : Type} (k : r5 → α) (e : Nat → α) (z : α) (p : M8) (s : r5) : α := let t1 := (mb0 (gL tP p.c7 p.is4.toNat) (gL tP p.c7 p.is5.toNat) (gL tP p.c7 s.is6.toNat)); let t2 := (mb3 (rt tP p.c7) t1.1); let t3 := (Na1 [] t1.1); (sl (decide (s.is6 < (↑(List.length p.c7) : Int))) (sl (inB p.is4 (List.length p.c7)) (sl (inB p.is5 (List.length p.c7)) (sl (inB s.is6 (List.length p.c7)) (sl (mb1 (gL tP p.c7 p.is4.toNat) (gL tP p.c7 p.is5.toNat) (gL tP p.c7 s.is6.toNat)) (sl t1.2 (sl (okE tP p.c7) (sl (mb4 (rt tP p.c7) t1.1) (sl t2 (sl (Na2 [] t1.1) (sl (!t3) (k ⟨1, (W (s.is6 + 1)), 1, [[(i t1.1.px), (i t1.1.py), (i t1.1.pz), (i t1.1.pw)]]⟩) (k ⟨0, (W (s.is6 + 1)), 0, []⟩)) z) (k ⟨0, (W (s.is6 + 1)), 0, []⟩)) z) z) (k ⟨0, (W (s.is6 + 1)), 0, []⟩)) z) z) z) z) (e 1))
noncomputable def R9 {α : Type} (k : r5 → α) (e : Nat → α) (z : α) (p : M8) (s : r5) : α := let t1 := (mb0 (gL tP p.c7 p.is4.toNat) (gL tP p.c7 p.is5.toNat) (gL tP p.c7 s.is6.toNat)); let t2 := (mb3 (rt tP p.c7) t1.1); let t3 := (Na1 (slR tX s.eh0 0 s.ns3) t1.1); (sl (decide (s.is6 < (↑(List.length p.c7) : Int))) (sl (inB p.is4 (List.length p.c7)) (sl (inB p.is5 (List.length p.c7)) (sl (inB s.is6 (List.length p.c7)) (sl (mb1 (gL tP p.c7 p.is4.toNat) (gL tP p.c7 p.is5.toNat) (gL tP p.c7 s.is6.toNat)) (sl t1.2 (sl (okE tP p.c7) (sl (mb4 (rt tP p.c7) t1.1) (sl t2 (sl (okS tX s.eh0 0 s.ns3) (sl (Na2 (slR tX s.eh0 0 s.ns3) t1.1) (sl (!t3) (sl (Nat.beq s.ns3 (len s.eh0) && Nat.ble ((s.ns3 + 1) * 32) room) (k ⟨1, (W (s.is6 + 1)), (s.ns3 + 1), (app s.eh0 [[(i t1.1.px), (i t1.1.py), (i t1.1.pz), (i t1.1.pw)]])⟩) z) (k ⟨1, (W (s.is6 + 1)), s.ns3, s.eh0⟩)) z) z) (k ⟨1, (W (s.is6 + 1)), s.ns3, s.eh0⟩)) z) z) (k ⟨1, (W (s.is6 + 1)), s.ns3, s.eh0⟩)) z) z) z) z) (e 2))
noncomputable def O7 (p : M8) (s : r5) : Stp r5 := (sel (Nat.beq s.ph 1) (R9 .next .exit .fail p s) (R8 .next .exit .fail p s))
noncomputable def cb7 : Lo M8 r5 := ⟨En Pa7, 0, xe4, [1, 1, 0, 1, 4, 4, 1, 0, 4, 1, 4, 4, 1, 0, 4, 1, 4, 4], [0, 3, 4, 5, 6], .p, [⟨((.s (.c 4 (nL tP))) :: ((.s (.o .unk)) :: ((.s (.o .unk)) :: ((.s (.o .nil)) :: ((.s (.o (.int .i64))) :: ((.s (.o (.int .i64))) :: ((.s (.o (.int .i64))) :: (ru2 57 [])))))))), [], fun a H => (⟨(rL tP (slT a 0)), (toI (slT a 4)), (toI (slT a 5))⟩, ⟨0, (toI (slT a 6)), 0, []⟩)⟩, ⟨((.s (.c 4 (nL tP))) :: ((.s (.o .unk)) :: ((.s (.o .unk)) :: ((.s (.o (.sl 0 0 (some 0) none))) :: ((.s (.o (.int .i64))) :: ((.s (.o (.int .i64))) :: ((.s (.o (.int .i64))) :: (ru2 57 [])))))))), [⟨54, 4, true, none⟩], fun a H => (⟨(rL tP (slT a 0)), (toI (slT a 4)), (toI (slT a 5))⟩, ⟨1, (toI (slT a 6)), (slN (slT a 3)), (elT H 0)⟩)⟩], O7, [(some 4, fun p s => ⟨((eL tP p.c7) :: (.unk :: (.unk :: ((.v (.slice none 0 0)) :: ((i p.is4) :: ((i p.is5) :: ((i s.is6) :: (ra 18 ((i s.is6) :: ((eL tP p.c7) :: ((i (↑(List.length p.c7) : Int)) :: ((b (decide (s.is6 < (↑(List.length p.c7) : Int)))) :: (ra 35 []))))))))))))), []⟩), (some 4, fun p s => ⟨((eL tP p.c7) :: (.unk :: (.unk :: ((.sl 0 0 s.ns3 0) :: ((i p.is4) :: ((i p.is5) :: ((i s.is6) :: (ra 18 ((i s.is6) :: ((eL tP p.c7) :: ((i (↑(List.length p.c7) : Int)) :: ((b (decide (s.is6 < (↑(List.length p.c7) : Int)))) :: (ra 35 []))))))))))))), [⟨54, 4, s.eh0, true, false, 0⟩]⟩)], tc7⟩
theorem tc8 : cb7.Ok := Lo.ok [] (by kernel_rfl) .nil rfl (.cons (fun a H => by kernel_rfl) (.cons (fun a H => by kernel_rfl) .nil)) fun p s => (.sel (Nat.beq s.ph 1) (.of @R9 (fun F _ _ _ _ _ => by unfold R9; (repeat' apply k9 (f := F)) <;> rfl) (by kernel_rfl)) (.of @R8 (fun F _ _ _ _ _ => by unfold R8; (repeat' apply k9 (f := F)) <;> rfl) (by kernel_rfl)))
structure M9 where
 is4 : Int
structure s7 where
 ph : Nat
 c7 : List Pln
 is5 : Int
 ns3 : Nat
 eh0 : List (List b7)
noncomputable def mc0 (p : M9) (s : s7) : St := ⟨((eL tP s.c7) :: (.unk :: (.unk :: ((.v (.slice none 0 0)) :: ((i p.is4) :: ((i s.is5) :: (ra 58 []))))))), []⟩
noncomputable def mc1 (p : M9) (s : s7) : St := ⟨((eL tP s.c7) :: (.unk :: (.unk :: ((.sl 0 0 s.ns3 0) :: ((i p.is4) :: ((i s.is5) :: (ra 58 []))))))), [⟨54, 4, s.eh0, true, false, 0⟩]⟩
noncomputable def tc9 (p : M9) (s : s7) : St := (sel (Nat.beq s.ph 1) (mc1 p s) (mc0 p s))
noncomputable def S1 {α : Type} (k : s7 → α) (e : Nat → α) (z : α) (p : M9) (s : s7) : α := let t1 := (lp (O7 (⟨(rt tP s.c7), p.is4, s.is5⟩ : M8)) (⟨0, (W (s.is5 + 1)), 0, []⟩ : r5)); (sl (decide (s.is5 < (↑(List.length s.c7) : Int))) (sl ((cnE tP s.c7) && true) (sl (Nat.beq t1.1 1) (k ⟨0, (rt tP s.c7), (W (s.is5 + 1)), 0, []⟩) (sl (Nat.beq t1.1 2) (k ⟨1, (rt tP s.c7), (W (s.is5 + 1)), t1.2.ns3, t1.2.eh0⟩) z)) z) (e 1))
noncomputable def S3 {α : Type} (k : s7 → α) (e : Nat → α) (z : α) (p : M9) (s : s7) : α := let t1 := (lp (O7 (⟨(rt tP s.c7), p.is4, s.is5⟩ : M8)) (⟨1, (W (s.is5 + 1)), s.ns3, s.eh0⟩ : r5)); (sl (decide (s.is5 < (↑(List.length s.c7) : Int))) (sl ((cnE tP s.c7) && true) (sl (Nat.beq t1.1 1) (k ⟨0, (rt tP s.c7), (W (s.is5 + 1)), 0, []⟩) (sl (Nat.beq t1.1 2) (k ⟨1, (rt tP s.c7), (W (s.is5 + 1)), t1.2.ns3, t1.2.eh0⟩) z)) z) (e 2))
noncomputable def K6 (p : M9) (s : s7) : Stp s7 := (sel (Nat.beq s.ph 1) (S3 .next .exit .fail p s) (S1 .next .exit .fail p s))
noncomputable def cb8 : Lo M9 s7 := ⟨En Pa7, 0, xe4, [1, 1, 0, 1, 4, 4, 1, 0, 4, 1, 4, 4], [0, 3, 4, 5], (.s .p (.s (.b (.s .p (.b (.u cb7.ls)))) .p)), [⟨((.s (.c 4 (nL tP))) :: ((.s (.o .unk)) :: ((.s (.o .unk)) :: ((.s (.o .nil)) :: ((.s (.o (.int .i64))) :: ((.s (.o (.int .i64))) :: (ru2 58 []))))))), [], fun a H => (⟨(toI (slT a 4))⟩, ⟨0, (rL tP (slT a 0)), (toI (slT a 5)), 0, []⟩)⟩, ⟨((.s (.c 4 (nL tP))) :: ((.s (.o .unk)) :: ((.s (.o .unk)) :: ((.s (.o (.sl 0 0 (some 0) none))) :: ((.s (.o (.int .i64))) :: ((.s (.o (.int .i64))) :: (ru2 58 []))))))), [⟨54, 4, true, none⟩], fun a H => (⟨(toI (slT a 4))⟩, ⟨1, (rL tP (slT a 0)), (toI (slT a 5)), (slN (slT a 3)), (elT H 0)⟩)⟩], K6, [(some 2, fun p s => ⟨((eL tP s.c7) :: (.unk :: (.unk :: ((.v (.slice none 0 0)) :: ((i p.is4) :: ((i s.is5) :: (ra 11 ((i s.is5) :: ((eL tP s.c7) :: ((i (↑(List.length s.c7) : Int)) :: ((b (decide (s.is5 < (↑(List.length s.c7) : Int)))) :: (ra 43 [])))))))))))), []⟩), (some 2, fun p s => ⟨((eL tP s.c7) :: (.unk :: (.unk :: ((.sl 0 0 s.ns3 0) :: ((i p.is4) :: ((i s.is5) :: (ra 11 ((i s.is5) :: ((eL tP s.c7) :: ((i (↑(List.length s.c7) : Int)) :: ((b (decide (s.is5 < (↑(List.length s.c7) : Int)))) :: (ra 43 [])))))))))))), [⟨54, 4, s.eh0, true, false, 0⟩]⟩)], tc9⟩
theorem uc0 : cb8.Ok := Lo.ok [cb7.pr] (by kernel_rfl) (.cons tc8 .nil) rfl (.cons (fun a H => by kernel_rfl) (.cons (fun a H => by kernel_rfl) .nil)) fun p s => (.sel (Nat.beq s.ph 1) (.of @S3 (fun F _ _ _ _ _ => by unfold S3; (repeat' apply k9 (f := F)) <;> rfl) (by kernel_rfl)) (.of @S1 (fun F _ _ _ _ _ => by unfold S1; (repeat' apply k9 (f := F)) <;> rfl) (by kernel_rfl)))
structure U0 where
structure z7 where
 ph : Nat
 c7 : List Pln
 is4 : Int
 ns3 : Nat
 eh0 : List (List b7)
noncomputable def mc2 (p : U0) (s : z7) : St := ⟨((eL tP s.c7) :: (.unk :: (.unk :: ((.v (.slice none 0 0)) :: ((i s.is4) :: (ra 59 [])))))), []⟩
noncomputable def mc3 (p : U0) (s : z7) : St := ⟨((eL tP s.c7) :: (.unk :: (.unk :: ((.sl 0 0 s.ns3 0) :: ((i s.is4) :: (ra 59 [])))))), [⟨54, 4, s.eh0, true, false, 0⟩]⟩
noncomputable def uc1 (p : U0) (s : z7) : St := (sel (Nat.beq s.ph 1) (mc3 p s) (mc2 p s))
noncomputable def S4 {α : Type} (k : z7 → α) (e : Nat → α) (z : α) (p : U0) (s : z7) : α := let t1 := (lp (K6 (⟨s.is4⟩ : M9)) (⟨0, (rt tP s.c7), (W (s.is4 + 1)), 0, []⟩ : s7)); (sl (decide (s.is4 < (↑(List.length s.c7) : Int))) (sl ((cnE tP s.c7) && true) (sl (Nat.beq t1.1 1) (k ⟨0, t1.2.c7, (W (s.is4 + 1)), 0, []⟩) (sl (Nat.beq t1.1 2) (k ⟨1, t1.2.c7, (W (s.is4 + 1)), t1.2.ns3, t1.2.eh0⟩) z)) z) (e 1))
noncomputable def S5 {α : Type} (k : z7 → α) (e : Nat → α) (z : α) (p : U0) (s : z7) : α := let t1 := (lp (K6 (⟨s.is4⟩ : M9)) (⟨1, (rt tP s.c7), (W (s.is4 + 1)), s.ns3, s.eh0⟩ : s7)); (sl (decide (s.is4 < (↑(List.length s.c7) : Int))) (sl ((cnE tP s.c7) && true) (sl (Nat.beq t1.1 1) (k ⟨0, t1.2.c7, (W (s.is4 + 1)), 0, []⟩) (sl (Nat.beq t1.1 2) (k ⟨1, t1.2.c7, (W (s.is4 + 1)), t1.2.ns3, t1.2.eh0⟩) z)) z) (e 2))
noncomputable def O8 (p : U0) (s : z7) : Stp z7 := (sel (Nat.beq s.ph 1) (S5 .next .exit .fail p s) (S4 .next .exit .fail p s))
noncomputable def cb9 : Lo U0 z7 := ⟨En Pa7, 0, xe4, [1, 1, 0, 1, 4, 4], [0, 3, 4], (.s .p (.s (.b (.s .p (.b (.u cb8.ls)))) .p)), [⟨((.s (.c 4 (nL tP))) :: ((.s (.o .unk)) :: ((.s (.o .unk)) :: ((.s (.o .nil)) :: ((.s (.o (.int .i64))) :: (ru2 59 [])))))), [], fun a H => (⟨⟩, ⟨0, (rL tP (slT a 0)), (toI (slT a 4)), 0, []⟩)⟩, ⟨((.s (.c 4 (nL tP))) :: ((.s (.o .unk)) :: ((.s (.o .unk)) :: ((.s (.o (.sl 0 0 (some 0) none))) :: ((.s (.o (.int .i64))) :: (ru2 59 [])))))), [⟨54, 4, true, none⟩], fun a H => (⟨⟩, ⟨1, (rL tP (slT a 0)), (toI (slT a 4)), (slN (slT a 3)), (elT H 0)⟩)⟩], O8, [(some 0, fun p s => ⟨((eL tP s.c7) :: (.unk :: (.unk :: ((.v (.slice none 0 0)) :: ((i s.is4) :: (ra 4 ((i s.is4) :: ((eL tP s.c7) :: ((i (↑(List.length s.c7) : Int)) :: ((b (decide (s.is4 < (↑(List.length s.c7) : Int)))) :: (ra 51 []))))))))))), []⟩), (some 0, fun p s => ⟨((eL tP s.c7) :: (.unk :: (.unk :: ((.sl 0 0 s.ns3 0) :: ((i s.is4) :: (ra 4 ((i s.is4) :: ((eL tP s.c7) :: ((i (↑(List.length s.c7) : Int)) :: ((b (decide (s.is4 < (↑(List.length s.c7) : Int)))) :: (ra 51 []))))))))))), [⟨54, 4, s.eh0, true, false, 0⟩]⟩)], uc1⟩
theorem uc2 : cb9.Ok := Lo.ok [cb8.pr] (by kernel_rfl) (.cons uc0 .nil) rfl (.cons (fun a H => by kernel_rfl) (.cons (fun a H => by kernel_rfl) .nil)) fun p s => (.sel (Nat.beq s.ph 1) (.of @S5 (fun F _ _ _ _ _ => by unfold S5; (repeat' apply k9 (f := F)) <;> rfl) (by kernel_rfl)) (.of @S4 (fun F _ _ _ _ _ => by unfold S4; (repeat' apply k9 (f := F)) <;> rfl) (by kernel_rfl)))
noncomputable def Ha0 (x : List Pln) : Option (b7 × List b8) := let t1 := (lp (O8 (⟨⟩ : U0)) (⟨0, (rt tP x), 0, 0, []⟩ : z7)); (sl ((cnE tP x) && true) (sl (Nat.beq t1.1 1) (some ((.v (.slice none 0 0)), [])) (sl (Nat.beq t1.1 2) (some ((.sl 0 0 t1.2.ns3 0), [⟨54, 4, t1.2.eh0, true, false, 0⟩])) none)) none)
noncomputable def Ha1 (x : List Pln) : List Pt := K5 (one (r1L tX)) (Ha0 x)
noncomputable def Ha2 (x : List Pln) : Bool := okO (one (r1L tX)) (Ha0 x)
noncomputable def wb5 : Sum := R3 (W7 tP) (fun x => .guard (Ha2 x) (.ret ((one (r1L tX)).enc (Ha1 x), [])))
theorem Qb2 : g9 prog G 90 wb5 := za1 (bd b90 Cc0) (one (r1L tX)) (o := Ha0) fun x => sa6 (.s .p (.s .p (.s (.s .p (.b (.u cb9.ls))) .p))) [cb9.pr] (by kernel_rfl) (.cons uc2 .nil) (by kernel_rfl)
noncomputable def ub7 : List (Nat × Sum) := []
theorem ec2 : i6 prog G ub7 := trivial
@[reducible] noncomputable def Ea2 : Sum := i8 (En ub7) Ee7
theorem Pa8 : g9 prog G 166 Ea2 := bd ff7 ec2
noncomputable def Cc1 : List (Nat × Sum) := []
theorem uc3 : i6 prog G Cc1 := trivial
noncomputable def Aa2 (x : Int) : Option (b7 × List b8) := (sl (decide (x < 0)) (some ((i (W (0 - x))), [])) (some ((i x), [])))
noncomputable def pa9 (x : Int) : Int := K5 (one r1I) (Aa2 x)
noncomputable def qa0 (x : Int) : Bool := okO (one r1I) (Aa2 x)
noncomputable def Qb3 : Sum := R3 cI (fun x => .guard (qa0 x) (.ret ((one r1I).enc (pa9 x), [])))
theorem Cc2 : g9 prog G 215 Qb3 := za1 (bd if2 uc3) (one r1I) (o := Aa2) fun x => r9 (by kernel_rfl)
noncomputable def zc0 : List (Nat × Sum) := [(215, Qb3), (166, Ea2)]
theorem od5 : i6 prog G zc0 := ⟨Cc2, Pa8, trivial⟩
structure la5 where
 is6 : Int
 f9 : Int
 b9 : Int
 g7 : Int
 ga0 : Int
 ga1 : Int
 ga2 : Int
structure S6 where
 is5 : Int
 is7 : Int
noncomputable def Xc1 (p : la5) (s : S6) : St := ⟨(.unk :: ((.ptr 0 0 0 0) :: ((.ptr 1 0 0 0) :: (.unk :: ((.ptr 2 0 0 0) :: ((i s.is5) :: ((i p.is6) :: ((i s.is7) :: (ra 38 []))))))))), [⟨0, 3, [[(i p.f9), (i p.b9), (i p.g7)]], true, false, 0⟩, ⟨0, 3, [[(i 0), (i 0), (i 0)]], true, false, 0⟩, ⟨0, 3, [[(i p.ga0), (i p.ga1), (i p.ga2)]], true, false, 0⟩]⟩
noncomputable def Aa3 {α : Type} (k : S6 → α) (e : Nat → α) (z : α) (p : la5) (s : S6) : α := (sl (decide (s.is7 > 0)) (sl (s.is7 == 0) z (k ⟨s.is7, (Int.tmod s.is5 s.is7)⟩)) (e 1))
noncomputable def ga4 (p : la5) (s : S6) : Stp S6 := Aa3 .next .exit .fail p s
noncomputable def Fb2 : Lo la5 S6 := ⟨En zc0, 0, Ee8, [1, 1, 1, 0, 1, 4, 4, 1, 0, 4, 1, 1, 4, 4], [1, 2, 4, 5, 6, 7], .p, [⟨((.s (.o .unk)) :: ((.s (.o (.ptr 0 0 0 0))) :: ((.s (.o (.ptr 1 0 0 0))) :: ((.s (.o .unk)) :: ((.s (.o (.ptr 2 0 0 0))) :: ((.s (.o (.int .i64))) :: ((.s (.o (.int .i64))) :: ((.s (.o (.int .i64))) :: (ru2 38 []))))))))), [⟨0, 3, true, (some [[(.o (.int .i64)), (.o (.int .i64)), (.o (.int .i64))]])⟩, ⟨0, 3, true, (some [[(.o (.lit .i64 0)), (.o (.lit .i64 0)), (.o (.lit .i64 0))]])⟩, ⟨0, 3, true, (some [[(.o (.int .i64)), (.o (.int .i64)), (.o (.int .i64))]])⟩], fun a H => (⟨(toI (slT a 6)), (toI (slT (rwT (elT H 0) 0) 0)), (toI (slT (rwT (elT H 0) 0) 1)), (toI (slT (rwT (elT H 0) 0) 2)), (toI (slT (rwT (elT H 2) 0) 0)), (toI (slT (rwT (elT H 2) 0) 1)), (toI (slT (rwT (elT H 2) 0) 2))⟩, ⟨(toI (slT a 5)), (toI (slT a 7))⟩)⟩], ga4, [(some 2, fun p s => ⟨(.unk :: ((.ptr 0 0 0 0) :: ((.ptr 1 0 0 0) :: (.unk :: ((.ptr 2 0 0 0) :: ((i s.is5) :: ((i p.is6) :: ((i s.is7) :: (ra 15 ((i s.is7) :: ((b (decide (s.is7 > 0))) :: (ra 21 [])))))))))))), [⟨0, 3, [[(i p.f9), (i p.b9), (i p.g7)]], true, false, 0⟩, ⟨0, 3, [[(i 0), (i 0), (i 0)]], true, false, 0⟩, ⟨0, 3, [[(i p.ga0), (i p.ga1), (i p.ga2)]], true, false, 0⟩]⟩)], Xc1⟩
theorem Xc2 : Fb2.Ok := Lo.ok [] (by kernel_rfl) .nil rfl (.cons (fun a H => by kernel_rfl) .nil) fun p s => (.of @Aa3 (fun F _ _ _ _ _ => by unfold Aa3; (repeat' apply k9 (f := F)) <;> rfl) (by kernel_rfl))
noncomputable def mb5 (x : V3) : Option (b7 × List b8) := let t1 := (pa9 x.x); let t2 := (lp (ga4 (⟨0, x.x, x.y, x.z, x.x, x.y, x.z⟩ : la5)) (⟨0, t1⟩ : S6)); let t3 := (pa9 x.y); let t4 := (lp (ga4 (⟨1, x.x, x.y, x.z, x.x, x.y, x.z⟩ : la5)) (⟨t2.2.is5, t3⟩ : S6)); let t5 := (pa9 x.z); let t6 := (lp (ga4 (⟨2, x.x, x.y, x.z, x.x, x.y, x.z⟩ : la5)) (⟨t4.2.is5, t5⟩ : S6)); (sl (x.x == (-9223372036854775808)) (some ((.tup [(.agg [(i 0), (i 0), (i 0)]), (i 0)]), [])) (sl (qa0 x.x) (sl (Nat.beq t2.1 1) (sl (x.y == (-9223372036854775808)) (some ((.tup [(.agg [(i 0), (i 0), (i 0)]), (i 0)]), [])) (sl (qa0 x.y) (sl (Nat.beq t4.1 1) (sl (x.z == (-9223372036854775808)) (some ((.tup [(.agg [(i 0), (i 0), (i 0)]), (i 0)]), [])) (sl (qa0 x.z) (sl (Nat.beq t6.1 1) (sl (t6.2.is5 == 0) (some ((.tup [(.agg [(i 0), (i 0), (i 0)]), (i 0)]), [])) (sl (t6.2.is5 == 0) none (sl (t6.2.is5 == 0) none (sl (t6.2.is5 == 0) none (some ((.tup [(.agg [(i (W (Int.tdiv x.x t6.2.is5))), (i (W (Int.tdiv x.y t6.2.is5))), (i (W (Int.tdiv x.z t6.2.is5)))]), (i t6.2.is5)]), [])))))) none) none)) none) none)) none) none))
noncomputable def La9 (x : V3) : V3 × Int := K5 (two r1V r1I) (mb5 x)
noncomputable def mb6 (x : V3) : Bool := okO (two r1V r1I) (mb5 x)
noncomputable def ec3 : Sum := R3 (R4 tV) (fun x => .guard (mb6 x) (.ret ((two r1V r1I).enc (La9 x), [])))
theorem zc1 : g9 prog G 167 ec3 := za1 (bd ff8 od5) (two r1V r1I) (o := mb5) fun x => sa6 (.s .p (.s .p (.s .p (.s (.s .p (.b (.l (.s .p (.s (.b (.s .p (.s .p (.b (.u Fb2.ls))))) .p))))) .p)))) [Fb2.pr] (by kernel_rfl) (.cons Xc2 .nil) (by kernel_rfl)
noncomputable def od6 : List (Nat × Sum) := [(167, ec3), (166, Ea2)]
theorem Xc3 : i6 prog G od6 := ⟨zc1, Pa8, trivial⟩
noncomputable def Za1 (x : Pln) : Option (b7 × List b8) := let t1 := (La9 x.n); (sl (decide (x.n.x < (-4608))) (some ((b false), [])) (sl (decide (x.n.x > 4608)) (some ((b false), [])) (sl (decide (x.n.y < (-4608))) (some ((b false), [])) (sl (decide (x.n.y > 4608)) (some ((b false), [])) (sl (decide (x.n.z < (-4608))) (some ((b false), [])) (sl (decide (x.n.z > 4608)) (some ((b false), [])) (sl (mb6 x.n) (sl (t1.2 == 1) (sl (decide (x.b ≥ (-2097152))) (some ((b (decide (x.b ≤ 2097152))), [])) (some ((b false), []))) (some ((b false), []))) none)))))))
noncomputable def Za2 (x : Pln) : Bool := K5 (one r1B) (Za1 x)
noncomputable def Za3 (x : Pln) : Bool := okO (one r1B) (Za1 x)
noncomputable def Qb4 : Sum := R3 (R4 tP) (fun x => .guard (Za3 x) (.ret ((one r1B).enc (Za2 x), [])))
theorem mc4 : g9 prog G 86 Qb4 := za1 (bd b86 Xc3) (one r1B) (o := Za1) fun x => r9 (by kernel_rfl)
noncomputable def mc5 : List (Nat × Sum) := [(86, Qb4)]
theorem Xc4 : i6 prog G mc5 := ⟨mc4, trivial⟩
structure Ha3 where
 c7 : List Pln
structure Y2 where
 is3 : Int
noncomputable def Nc1 (p : Ha3) (s : Y2) : St := ⟨((eL tP p.c7) :: (.unk :: (.unk :: ((i s.is3) :: (ra 15 []))))), []⟩
noncomputable def va0 {α : Type} (k : Y2 → α) (e : Nat → α) (z : α) (p : Ha3) (s : Y2) : α := let t1 := (Za2 (gL tP p.c7 s.is3.toNat)); (sl (decide (s.is3 < (↑(List.length p.c7) : Int))) (sl (inB s.is3 (List.length p.c7)) (sl (Za3 (gL tP p.c7 s.is3.toNat)) (sl (!t1) (e 1) (k ⟨(W (s.is3 + 1))⟩)) z) z) (e 2))
noncomputable def Aa4 (p : Ha3) (s : Y2) : Stp Y2 := va0 .next .exit .fail p s
noncomputable def wb6 : Lo Ha3 Y2 := ⟨En mc5, 0, Se4, [1, 1, 0, 1, 4, 4], [0, 3], .p, [⟨((.s (.c 4 (nL tP))) :: ((.s (.o .unk)) :: ((.s (.o .unk)) :: ((.s (.o (.int .i64))) :: (ru2 15 []))))), [], fun a H => (⟨(rL tP (slT a 0))⟩, ⟨(toI (slT a 3))⟩)⟩], Aa4, [(none, fun p s => ⟨[(i 12)], []⟩), (some 0, fun p s => ⟨((eL tP p.c7) :: (.unk :: (.unk :: ((i s.is3) :: (ra 3 ((i s.is3) :: ((eL tP p.c7) :: ((i (↑(List.length p.c7) : Int)) :: ((b (decide (s.is3 < (↑(List.length p.c7) : Int)))) :: (ra 8 [])))))))))), []⟩)], Nc1⟩
theorem Nc2 : wb6.Ok := Lo.ok [] (by kernel_rfl) .nil rfl (.cons (fun a H => by kernel_rfl) .nil) fun p s => (.of @va0 (fun F _ _ _ _ _ => by unfold va0; (repeat' apply k9 (f := F)) <;> rfl) (by kernel_rfl))
noncomputable def Za4 (x : List Pln) : Option (b7 × List b8) := let t1 := (lp (Aa4 (⟨(rt tP x)⟩ : Ha3)) (⟨0⟩ : Y2)); (sl (decide ((↑(List.length x) : Int) > 48)) (some ((i 2), [])) (sl ((cnE tP x) && true) (sl (Nat.beq t1.1 1) (some ((i 12), [])) (sl (Nat.beq t1.1 2) (some ((i 0), [])) none)) none))
noncomputable def Na3 (x : List Pln) : Int := K5 (one r1I) (Za4 x)
noncomputable def Na4 (x : List Pln) : Bool := okO (one r1I) (Za4 x)
noncomputable def ub8 : Sum := R3 (W7 tP) (fun x => .guard (Na4 x) (.ret ((one r1I).enc (Na3 x), [])))
theorem Fb3 : g9 prog G 16 ub8 := za1 (bd b16 Xc4) (one r1I) (o := Za4) fun x => sa6 (.s .p (.s .p (.s (.s .p (.b (.u wb6.ls))) .p))) [wb6.pr] (by kernel_rfl) (.cons Nc2 .nil) (by kernel_rfl)
noncomputable def Nd4 : List (Nat × Sum) := []
theorem Bd2 : i6 prog G Nd4 := trivial
noncomputable def Wb1 (x : V3) (y : V3) : Option (b7 × List b8) := (some ((.sl 0 0 6 0), [⟨50, 4, [[(i 1), (i 0), (i 0), (i y.x)], [(i (-1)), (i 0), (i 0), (i (W (0 - x.x)))], [(i 0), (i 1), (i 0), (i y.y)], [(i 0), (i (-1)), (i 0), (i (W (0 - x.y)))], [(i 0), (i 0), (i 1), (i y.z)], [(i 0), (i 0), (i (-1)), (i (W (0 - x.z)))]], true, false, 0⟩]))
noncomputable def Ab5 (x : V3) (y : V3) : List Pln := K5 (one (r1L tP)) (Wb1 x y)
noncomputable def kb0 (x : V3) (y : V3) : Bool := okO (one (r1L tP)) (Wb1 x y)
noncomputable def uc4 : Sum := oa1 (R4 tV) (R4 tV) (fun x y => .guard (kb0 x y) (.ret ((one (r1L tP)).enc (Ab5 x y), [])))
theorem Nc3 : g9 prog G 111 uc4 := gb5 (bd We5 Bd2) (one (r1L tP)) (o := Wb1) fun x y => r9 (by kernel_rfl)
noncomputable def Nd5 : List (Nat × Sum) := [(111, uc4)]
theorem Bd3 : i6 prog G Nd5 := ⟨Nc3, trivial⟩
noncomputable def Ab6 (x : List Pln) : Option (b7 × List b8) := let t1 := (Ab5 (⟨(-24), (-24), (-24)⟩ : V3) (⟨24, 24, 24⟩ : V3)); (sl (Nat.beq (len (o7 (fun k => (tP).row (gL tP x k)) (List.range (List.length x)))) 0) (sl (kb0 (⟨(-24), (-24), (-24)⟩ : V3) (⟨24, 24, 24⟩ : V3)) (sl (Nat.beq (len (o7 (fun k => (tP).row (gL tP t1 k)) (List.range (List.length t1)))) 0) (some ((.sl 0 0 0 0), [⟨50, 4, [], true, false, 0⟩])) (sl (Nat.beq 0 0 && Nat.ble ((0 + (len (o7 (fun k => (tP).row (gL tP t1 k)) (List.range (List.length t1))))) * 32) room) (some ((.sl 0 0 (0 + (len (o7 (fun k => (tP).row (gL tP t1 k)) (List.range (List.length t1))))) 0), [⟨50, 4, (app [] (o7 (fun k => (tP).row (gL tP t1 k)) (List.range (List.length t1)))), true, false, 0⟩])) none)) none) (sl (Nat.beq 0 0 && Nat.ble ((0 + (len (o7 (fun k => (tP).row (gL tP x k)) (List.range (List.length x))))) * 32) room) (sl (kb0 (⟨(-24), (-24), (-24)⟩ : V3) (⟨24, 24, 24⟩ : V3)) (sl (Nat.beq (len (o7 (fun k => (tP).row (gL tP t1 k)) (List.range (List.length t1)))) 0) (some ((.sl 0 0 (0 + (len (o7 (fun k => (tP).row (gL tP x k)) (List.range (List.length x))))) 0), [⟨50, 4, (app [] (o7 (fun k => (tP).row (gL tP x k)) (List.range (List.length x)))), true, false, 0⟩])) (sl (Nat.beq (0 + (len (o7 (fun k => (tP).row (gL tP x k)) (List.range (List.length x))))) (len (app [] (o7 (fun k => (tP).row (gL tP x k)) (List.range (List.length x))))) && Nat.ble (((0 + (len (o7 (fun k => (tP).row (gL tP x k)) (List.range (List.length x))))) + (len (o7 (fun k => (tP).row (gL tP t1 k)) (List.range (List.length t1))))) * 32) room) (some ((.sl 0 0 ((0 + (len (o7 (fun k => (tP).row (gL tP x k)) (List.range (List.length x))))) + (len (o7 (fun k => (tP).row (gL tP t1 k)) (List.range (List.length t1))))) 0), [⟨50, 4, (app (app [] (o7 (fun k => (tP).row (gL tP x k)) (List.range (List.length x)))) (o7 (fun k => (tP).row (gL tP t1 k)) (List.range (List.length t1)))), true, false, 0⟩])) none)) none) none))
noncomputable def Ab7 (x : List Pln) : List Pln := K5 (one (r1L tP)) (Ab6 x)
noncomputable def Ab8 (x : List Pln) : Bool := okO (one (r1L tP)) (Ab6 x)
noncomputable def uc5 : Sum := R3 (W7 tP) (fun x => .guard (Ab8 x) (.ret ((one (r1L tP)).enc (Ab7 x), [])))
theorem Nc4 : g9 prog G 91 uc5 := za1 (bd b91 Bd3) (one (r1L tP)) (o := Ab6) fun x => r9 (by kernel_rfl)
noncomputable def Xc5 : List (Nat × Sum) := [(16, ub8), (91, uc5), (90, wb5)]
theorem Nc5 : i6 prog G Xc5 := ⟨Fb3, Nc4, Qb2, trivial⟩
noncomputable def Pa9 (x : List Pln) : Option (b7 × List b8) := let t1 := (Na3 (rt tP x)); let t2 := (Ab7 (rt tP x)); let t3 := (Ha1 (rt tP t2)); (sl (okE tP x) (sl (Na4 (rt tP x)) (sl (t1 != 0) (some ((.v (.slice none 0 0)), [])) (sl (okE tP x) (sl (Ab8 (rt tP x)) (sl (okE tP t2) (sl (Ha2 (rt tP t2)) (some ((eL tX t3), [])) none) none) none) none)) none) none)
noncomputable def gb7 (x : List Pln) : List Pt := K5 (one (r1L tX)) (Pa9 x)
noncomputable def gb8 (x : List Pln) : Bool := okO (one (r1L tX)) (Pa9 x)
noncomputable def mc6 : Sum := R3 (W7 tP) (fun x => .guard (gb8 x) (.ret ((one (r1L tX)).enc (gb7 x), [])))
theorem Xc6 : g9 prog G 19 mc6 := za1 (bd b19 Nc5) (one (r1L tX)) (o := Pa9) fun x => r9 (by kernel_rfl)
noncomputable def Qb5 : List (Nat × Sum) := [(90, wb5), (37, Fb1)]
theorem od7 : i6 prog G Qb5 := ⟨Qb2, Pb9, trivial⟩
structure Qa0 where
 c7 : List Pln
 J4 : List Pt
 is4 : Int
structure la6 where
 bs5 : Bool
 is6 : Int
noncomputable def Xc7 (p : Qa0) (s : la6) : St := ⟨((eL tP p.c7) :: (.unk :: (.unk :: ((eL tX p.J4) :: ((i p.is4) :: ((b s.bs5) :: ((i s.is6) :: (ra 29 [])))))))), []⟩
noncomputable def Aa5 {α : Type} (k : la6 → α) (e : Nat → α) (z : α) (p : Qa0) (s : la6) : α := let t1 := (La8 (gL tP p.c7 p.is4.toNat) (gL tX p.J4 s.is6.toNat)); (sl (decide (s.is6 < (↑(List.length p.J4) : Int))) (sl s.bs5 (k ⟨true, (W (s.is6 + 1))⟩) (sl (inB p.is4 (List.length p.c7)) (sl (inB s.is6 (List.length p.J4)) (k ⟨(decide (t1 > 0)), (W (s.is6 + 1))⟩) z) z)) (e 1))
noncomputable def wa6 (p : Qa0) (s : la6) : Stp la6 := Aa5 .next .exit .fail p s
noncomputable def Fb4 : Lo Qa0 la6 := ⟨En Qb5, 0, Le5, [1, 1, 0, 1, 4, 4, 1, 0, 4, 1, 0, 1, 4, 4], [0, 3, 4, 5, 6], .p, [⟨((.s (.c 4 (nL tP))) :: ((.s (.o .unk)) :: ((.s (.o .unk)) :: ((.s (.c 4 (nL tX))) :: ((.s (.o (.int .i64))) :: ((.s (.o .bool)) :: ((.s (.o (.int .i64))) :: (ru2 29 [])))))))), [], fun a H => (⟨(rL tP (slT a 0)), (rL tX (slT a 3)), (toI (slT a 4))⟩, ⟨(toB (slT a 5)), (toI (slT a 6))⟩)⟩], wa6, [(some 2, fun p s => ⟨((eL tP p.c7) :: (.unk :: (.unk :: ((eL tX p.J4) :: ((i p.is4) :: ((b s.bs5) :: ((i s.is6) :: (ra 8 ((i s.is6) :: ((eL tX p.J4) :: ((i (↑(List.length p.J4) : Int)) :: ((b (decide (s.is6 < (↑(List.length p.J4) : Int)))) :: (ra 17 []))))))))))))), []⟩)], Xc7⟩
theorem Xc8 : Fb4.Ok := Lo.ok [] (by kernel_rfl) .nil rfl (.cons (fun a H => by kernel_rfl) .nil) fun p s => (.of @Aa5 (fun F _ _ _ _ _ => by unfold Aa5; (repeat' apply k9 (f := F)) <;> rfl) (by kernel_rfl))
structure Qa1 where
structure da9 where
 c7 : List Pln
 J4 : List Pt
 is4 : Int
noncomputable def Xc9 (p : Qa1) (s : da9) : St := ⟨((eL tP s.c7) :: (.unk :: (.unk :: ((eL tX s.J4) :: ((i s.is4) :: (ra 31 [])))))), []⟩
noncomputable def Aa6 {α : Type} (k : da9 → α) (e : Nat → α) (z : α) (p : Qa1) (s : da9) : α := let t1 := (lp (wa6 (⟨(rt tP s.c7), (rt tX s.J4), s.is4⟩ : Qa0)) (⟨false, 0⟩ : la6)); (sl (decide (s.is4 < (↑(List.length s.c7) : Int))) (sl ((cnE tP s.c7) && ((cnE tX s.J4) && true)) (sl (Nat.beq t1.1 1) (sl (!t1.2.bs5) (e 1) (k ⟨(rt tP s.c7), (rt tX s.J4), (W (s.is4 + 1))⟩)) z) z) (e 2))
noncomputable def Ha4 (p : Qa1) (s : da9) : Stp da9 := Aa6 .next .exit .fail p s
noncomputable def Fb5 : Lo Qa1 da9 := ⟨En Qb5, 0, Le5, [1, 1, 0, 1, 4, 4], [0, 3, 4], (.s .p (.s (.b (.s .p (.s (.s .p (.b (.u Fb4.ls))) .p))) .p)), [⟨((.s (.c 4 (nL tP))) :: ((.s (.o .unk)) :: ((.s (.o .unk)) :: ((.s (.c 4 (nL tX))) :: ((.s (.o (.int .i64))) :: (ru2 31 [])))))), [], fun a H => (⟨⟩, ⟨(rL tP (slT a 0)), (rL tX (slT a 3)), (toI (slT a 4))⟩)⟩], Ha4, [(none, fun p s => ⟨[(b false)], []⟩), (some 0, fun p s => ⟨((eL tP s.c7) :: (.unk :: (.unk :: ((eL tX s.J4) :: ((i s.is4) :: (ra 4 ((i s.is4) :: ((eL tP s.c7) :: ((i (↑(List.length s.c7) : Int)) :: ((b (decide (s.is4 < (↑(List.length s.c7) : Int)))) :: (ra 23 []))))))))))), []⟩)], Xc9⟩
theorem Yc0 : Fb5.Ok := Lo.ok [Fb4.pr] (by kernel_rfl) (.cons Xc8 .nil) rfl (.cons (fun a H => by kernel_rfl) .nil) fun p s => (.of @Aa6 (fun F _ _ _ _ _ => by unfold Aa6; (repeat' apply k9 (f := F)) <;> rfl) (by kernel_rfl))
noncomputable def mb7 (x : List Pln) : Option (b7 × List b8) := let t1 := (Ha1 (rt tP x)); let t2 := (lp (Ha4 (⟨⟩ : Qa1)) (⟨(rt tP x), (rt tX t1), 0⟩ : da9)); (sl (okE tP x) (sl (Ha2 (rt tP x)) (sl ((cnE tP x) && ((cnE tX t1) && true)) (sl (Nat.beq t2.1 1) (some ((b false), [])) (sl (Nat.beq t2.1 2) (some ((b true), [])) none)) none) none) none)
noncomputable def Fb6 (x : List Pln) : Bool := K5 (one r1B) (mb7 x)
noncomputable def Fb7 (x : List Pln) : Bool := okO (one r1B) (mb7 x)
noncomputable def Nc6 : Sum := R3 (W7 tP) (fun x => .guard (Fb7 x) (.ret ((one r1B).enc (Fb6 x), [])))
theorem Bd4 : g9 prog G 93 Nc6 := za1 (bd b93 od7) (one r1B) (o := mb7) fun x => sa6 (.s .p (.s .p (.s (.s .p (.b (.u Fb5.ls))) .p))) [Fb5.pr] (by kernel_rfl) (.cons Yc0 .nil) (by kernel_rfl)
noncomputable def Bd5 : List (Nat × Sum) := [(16, ub8), (91, uc5), (93, Nc6)]
theorem od8 : i6 prog G Bd5 := ⟨Fb3, Nc4, Bd4, trivial⟩
noncomputable def mb8 (x : List Pln) : Option (b7 × List b8) := let t1 := (Na3 (rt tP x)); let t2 := (Ab7 (rt tP x)); let t3 := (Fb6 (rt tP t2)); (sl (okE tP x) (sl (Na4 (rt tP x)) (sl (t1 == 0) (sl (okE tP x) (sl (Ab8 (rt tP x)) (sl (okE tP t2) (sl (Fb7 (rt tP t2)) (some ((b t3), [])) none) none) none) none) (some ((b false), []))) none) none)
noncomputable def Va4 (x : List Pln) : Bool := K5 (one r1B) (mb8 x)
noncomputable def Ma0 (x : List Pln) : Bool := okO (one r1B) (mb8 x)
noncomputable def ec4 : Sum := R3 (W7 tP) (fun x => .guard (Ma0 x) (.ret ((one r1B).enc (Va4 x), [])))
theorem zc2 : g9 prog G 21 ec4 := za1 (bd b21 od8) (one r1B) (o := mb8) fun x => r9 (by kernel_rfl)
noncomputable def Nd6 : List (Nat × Sum) := []
theorem Bd6 : i6 prog G Nd6 := trivial
noncomputable def Ab9 (x : Int) (y : Int) : Option (b7 × List b8) := (sl (decide (y < 1)) (some ((i 0), [])) (sl (y == 0) none (sl (y == 0) none (some ((i (Int.tmod (W ((Int.tmod x y) + y)) y)), [])))))
noncomputable def wa7 (x : Int) (y : Int) : Int := K5 (one r1I) (Ab9 x y)
noncomputable def qa1 (x : Int) (y : Int) : Bool := okO (one r1I) (Ab9 x y)
noncomputable def Bb0 : Sum := oa1 cI cI (fun x y => .guard (qa1 x y) (.ret ((one r1I).enc (wa7 x y), [])))
theorem Fb8 : g9 prog G 47 Bb0 := gb5 (bd b47 Bd6) (one r1I) (o := Ab9) fun x y => r9 (by kernel_rfl)
structure te2 where
 Ze9 : List Pt
structure te3 where
 is8 : Int
 ga0 : Int
 ga1 : Int
 ga2 : Int
 Xb5 : Int
 Xb6 : Int
 Xb7 : Int
end Go.Ev.Ce
end
section
namespace Go.Ev.Ce
open Go Go.Ev Go.Ev.L Go.Proofs
set_option maxRecDepth 100000
noncomputable def od9 : List (Nat × Sum) := []
theorem Yc1 : i6 prog G od9 := trivial
noncomputable def Na5 (x : V3) (y : V3) : Int := (W ((W ((W (x.x * y.x)) + (W (x.y * y.y)))) + (W (x.z * y.z))))
noncomputable def Qb6 : Sum := oa1 (R4 tV) (R4 tV) (fun x y => .ret ((one r1I).enc (Na5 x y), []))
theorem mc7 : g9 prog G 129 Qb6 := Ea1 (bd ff1 Yc1) fun x y => r9 (by kernel_rfl)
noncomputable def pd0 : List (Nat × Sum) := []
theorem Yc2 : i6 prog G pd0 := trivial
noncomputable def sa7 (x : V3) (y : V3) : V3 := (⟨(W (x.x + y.x)), (W (x.y + y.y)), (W (x.z + y.z))⟩ : V3)
noncomputable def zc3 : Sum := oa1 (R4 tV) (R4 tV) (fun x y => .ret ((one r1V).enc (sa7 x y), []))
theorem pd1 : g9 prog G 54 zc3 := Ea1 (bd b54 Yc2) fun x y => r9 (by kernel_rfl)
noncomputable def Yc3 : List (Nat × Sum) := []
theorem Nc7 : i6 prog G Yc3 := trivial
noncomputable def S7 (x : V3) (y : Int) : V3 := (⟨(W (x.x * y)), (W (x.y * y)), (W (x.z * y))⟩ : V3)
noncomputable def Fb9 : Sum := oa1 (R4 tV) cI (fun x y => .ret ((one r1V).enc (S7 x y), []))
theorem ac9 : g9 prog G 94 Fb9 := Ea1 (bd b94 Nc7) fun x y => r9 (by kernel_rfl)
noncomputable def Nc8 : List (Nat × Sum) := []
theorem Cc3 : i6 prog G Nc8 := trivial
noncomputable def Q8 (x : V3) (y : V3) : V3 := (⟨(W ((W (x.y * y.z)) - (W (x.z * y.y)))), (W ((W (x.z * y.x)) - (W (x.x * y.z)))), (W ((W (x.x * y.y)) - (W (x.y * y.x))))⟩ : V3)
noncomputable def bc0 : Sum := oa1 (R4 tV) (R4 tV) (fun x y => .ret ((one r1V).enc (Q8 x y), []))
theorem Nc9 : g9 prog G 142 bc0 := Ea1 (bd ff3 Cc3) fun x y => r9 (by kernel_rfl)
noncomputable def pd2 : List (Nat × Sum) := [(129, Qb6)]
theorem Yc4 : i6 prog G pd2 := ⟨mc7, trivial⟩
noncomputable def sa8 (x : Pln) (y : Pt) : Int := let t1 := (Na5 x.n (⟨y.px, y.py, y.pz⟩ : V3)); (W ((W (x.b * y.pw)) - t1))
noncomputable def ub9 : Sum := oa1 (R4 tP) (R4 tX) (fun x y => .ret ((one r1I).enc (sa8 x y), []))
theorem Gb0 : g9 prog G 102 ub9 := Ea1 (bd df6 Yc4) fun x y => r9 (by kernel_rfl)
noncomputable def Qb7 : List (Nat × Sum) := []
theorem pd3 : i6 prog G Qb7 := trivial
structure Ea3 where
 Fa9 : List Int
 is7 : Int
 is8 : Int
structure la7 where
 is3 : Int
 is5 : Int
noncomputable def Yc5 (p : Ea3) (s : la7) : St := ⟨(ra 3 ((i s.is3) :: (.unk :: ((i s.is5) :: ((eL tI p.Fa9) :: ((i p.is7) :: ((i p.is8) :: (ra 14 [])))))))), []⟩
noncomputable def Aa7 {α : Type} (k : la7 → α) (e : Nat → α) (z : α) (p : Ea3) (s : la7) : α := (sl (s.is5 != 0) (sl (s.is5 == 0) z (k ⟨s.is5, (Int.tmod s.is3 s.is5)⟩)) (e 1))
noncomputable def Ha5 (p : Ea3) (s : la7) : Stp la7 := Aa7 .next .exit .fail p s
noncomputable def Gb1 : Lo Ea3 la7 := ⟨En Qb7, 0, ke2, [1, 1, 0, 1, 4, 4, 1, 1, 0, 4, 1, 4, 4], [3, 5, 6, 7, 8], .p, [⟨(ru2 3 ((.s (.o (.int .i64))) :: ((.s (.o .unk)) :: ((.s (.o (.int .i64))) :: ((.s (.c 1 (nL tI))) :: ((.s (.o (.int .i64))) :: ((.s (.o (.int .i64))) :: (ru2 14 [])))))))), [], fun a H => (⟨(rL tI (slT a 6)), (toI (slT a 7)), (toI (slT a 8))⟩, ⟨(toI (slT a 3)), (toI (slT a 5))⟩)⟩], Ha5, [(some 2, fun p s => ⟨(ra 3 ((i s.is3) :: (.unk :: ((i s.is5) :: ((eL tI p.Fa9) :: ((i p.is7) :: ((i p.is8) :: (ra 3 ((i s.is5) :: ((b (s.is5 != 0)) :: (ra 9 []))))))))))), []⟩)], Yc5⟩
theorem Yc6 : Gb1.Ok := Lo.ok [] (by kernel_rfl) .nil rfl (.cons (fun a H => by kernel_rfl) .nil) fun p s => (.of @Aa7 (fun F _ _ _ _ _ => by unfold Aa7; (repeat' apply k9 (f := F)) <;> rfl) (by kernel_rfl))
structure Qa2 where
 is7 : Int
structure la8 where
 is3 : Int
 Fa9 : List Int
 is8 : Int
noncomputable def Yc7 (p : Qa2) (s : la8) : St := ⟨(ra 3 ((i s.is3) :: (.unk :: (.unk :: ((eL tI s.Fa9) :: ((i p.is7) :: ((i s.is8) :: (ra 14 [])))))))), []⟩
noncomputable def Aa8 {α : Type} (k : la8 → α) (e : Nat → α) (z : α) (p : Qa2) (s : la8) : α := let t1 := (lp (Ha5 (⟨(rt tI s.Fa9), p.is7, s.is8⟩ : Ea3)) (⟨s.is3, (gL tI s.Fa9 s.is8.toNat)⟩ : la7)); (sl (decide (s.is8 < p.is7)) (sl (inB s.is8 (List.length s.Fa9)) (sl ((cnE tI s.Fa9) && true) (sl (Nat.beq t1.1 1) (k ⟨t1.2.is3, (rt tI s.Fa9), (W (s.is8 + 1))⟩) z) z) z) (e 1))
noncomputable def wa8 (p : Qa2) (s : la8) : Stp la8 := Aa8 .next .exit .fail p s
noncomputable def Gb2 : Lo Qa2 la8 := ⟨En Qb7, 0, ke2, [1, 1, 0, 1, 4, 4], [3, 6, 7, 8], (.s .p (.s .p (.s (.b (.s .p (.b (.u Gb1.ls)))) .p))), [⟨(ru2 3 ((.s (.o (.int .i64))) :: ((.s (.o .unk)) :: ((.s (.o .unk)) :: ((.s (.c 1 (nL tI))) :: ((.s (.o (.int .i64))) :: ((.s (.o (.int .i64))) :: (ru2 14 [])))))))), [], fun a H => (⟨(toI (slT a 7))⟩, ⟨(toI (slT a 3)), (rL tI (slT a 6)), (toI (slT a 8))⟩)⟩], wa8, [(some 0, fun p s => ⟨(ra 3 ((i s.is3) :: (.unk :: (.unk :: ((eL tI s.Fa9) :: ((i p.is7) :: ((i s.is8) :: ((b (decide (s.is8 < p.is7))) :: (ra 13 []))))))))), []⟩)], Yc7⟩
theorem Yc8 : Gb2.Ok := Lo.ok [Gb1.pr] (by kernel_rfl) (.cons Yc6 .nil) rfl (.cons (fun a H => by kernel_rfl) .nil) fun p s => (.of @Aa8 (fun F _ _ _ _ _ => by unfold Aa8; (repeat' apply k9 (f := F)) <;> rfl) (by kernel_rfl))
noncomputable def mb9 (x : List Int) : Option (b7 × List b8) := let t1 := (lp (wa8 (⟨(↑(List.length x) : Int)⟩ : Qa2)) (⟨0, (rt tI x), 0⟩ : la8)); (sl ((cnE tI x) && true) (sl (Nat.beq t1.1 1) (some ((i (if (W (0 - t1.2.is3)) > t1.2.is3 then (W (0 - t1.2.is3)) else t1.2.is3)), [])) none) none)
noncomputable def Gb3 (x : List Int) : Int := K5 (one r1I) (mb9 x)
noncomputable def Gb4 (x : List Int) : Bool := okO (one r1I) (mb9 x)
noncomputable def Oc0 : Sum := R3 (W7 tI) (fun x => .guard (Gb4 x) (.ret ((one r1I).enc (Gb3 x), [])))
theorem Bd7 : g9 prog G 218 Oc0 := za1 (bd if4 pd3) (one r1I) (o := mb9) fun x => sa6 (.s .p (.s .p (.s (.s .p (.b (.u Gb2.ls))) .p))) [Gb2.pr] (by kernel_rfl) (.cons Yc8 .nil) (by kernel_rfl)
noncomputable def pd4 : List (Nat × Sum) := [(142, bc0), (129, Qb6), (94, Fb9), (54, zc3), (218, Oc0)]
theorem Yc9 : i6 prog G pd4 := ⟨Nc9, mc7, ac9, pd1, Bd7, trivial⟩
noncomputable def Za5 (x : Tp) : Option (b7 × List b8) := let t1 := (Q8 x.q.n x.r.n); let t3 := (S7 t1 x.p.b); let t4 := (sa7 (⟨0, 0, 0⟩ : V3) t3); let t5 := (Q8 x.r.n x.p.n); let t7 := (S7 t5 x.q.b); let t8 := (sa7 t4 t7); let t9 := (Q8 x.p.n x.q.n); let t10 := (Na5 x.r.n t9); let t11 := (S7 t9 x.r.b); let t12 := (sa7 t8 t11); let t13 := (Gb3 [t12.x, t12.y, t12.z, t10]); (sl (t10 == 0) (some ((.tup [(.agg [(i 0), (i 0), (i 0), (i 0)]), (b false)]), [])) (sl (Gb4 [t12.x, t12.y, t12.z, t10]) (sl (decide (t10 < 0)) (sl ((W (0 - t13)) == 0) none (sl ((W (0 - t13)) == 0) none (sl ((W (0 - t13)) == 0) none (sl ((W (0 - t13)) == 0) none (some ((.tup [(.agg [(i (W (Int.tdiv t12.x (W (0 - t13))))), (i (W (Int.tdiv t12.y (W (0 - t13))))), (i (W (Int.tdiv t12.z (W (0 - t13))))), (i (W (Int.tdiv t10 (W (0 - t13)))))]), (b true)]), [])))))) (sl (t13 == 0) none (sl (t13 == 0) none (sl (t13 == 0) none (sl (t13 == 0) none (some ((.tup [(.agg [(i (W (Int.tdiv t12.x t13))), (i (W (Int.tdiv t12.y t13))), (i (W (Int.tdiv t12.z t13))), (i (W (Int.tdiv t10 t13)))]), (b true)]), []))))))) none))
noncomputable def Za6 (x : Tp) : Pt × Bool := K5 (two r1X r1B) (Za5 x)
noncomputable def Za7 (x : Tp) : Bool := okO (two r1X r1B) (Za5 x)
noncomputable def zc4 : Sum := R3 (R4 tY) (fun x => .guard (Za7 x) (.ret ((two r1X r1B).enc (Za6 x), [])))
theorem pd5 : g9 prog G 171 zc4 := za1 (bd gf1 Yc9) (two r1X r1B) (o := Za5) fun x => r9 (by kernel_rfl)
structure Ka2 where
 na5 : Int
 na6 : Int
 na7 : Int
 qb8 : Int
 f9 : Int
 b9 : Int
 g7 : Int
 d9 : Int
noncomputable def uc6 : List (Nat × Sum) := [(102, ub9)]
theorem mc8 : i6 prog G uc6 := ⟨Gb0, trivial⟩
structure va1 where
 bs0 : Bool
noncomputable def va2 {α : Type} (kk : va1 → α) (x : Ka2) : α := let t1 := (sa8 (⟨(⟨x.na5, x.na6, x.na7⟩ : V3), x.qb8⟩ : Pln) (⟨x.f9, x.b9, x.g7, x.d9⟩ : Pt)); (kk ⟨(decide (t1 < 0))⟩)
noncomputable def db0 (x : Ka2) : va1 := va2 (fun r => r) x
noncomputable def Va5 (x : Ka2) (r : va1) : DT (b7 × List b8) := .ret ((b r.bs0), [⟨0, 4, [[(i x.f9), (i x.b9), (i x.g7), (i x.d9)]], true, false, 0⟩])
theorem Cc4 {α β : Type} (F : α → β) (kk : va1 → α) (x : Ka2) : F (va2 kk x) = va2 (fun r => F (kk r)) x := by unfold va2; (repeat' apply k9 (f := F)) <;> rfl
noncomputable def Jb8 : Sum := Pa4 ⟨[(.agg [(.o (.int .i64)), (.o (.int .i64)), (.o (.int .i64)), (.o (.int .i64))]), (.s (.o (.ptr 0 0 0 0)))], [⟨0, 4, true, (some [[(.o (.int .i64)), (.o (.int .i64)), (.o (.int .i64)), (.o (.int .i64))]])⟩], fun a H => (⟨(toI (slT (cellsOf (slT a 0)) 0)), (toI (slT (cellsOf (slT a 0)) 1)), (toI (slT (cellsOf (slT a 0)) 2)), (toI (slT (cellsOf (slT a 0)) 3)), (toI (slT (rwT (elT H 0) 0) 0)), (toI (slT (rwT (elT H 0) 0) 1)), (toI (slT (rwT (elT H 0) 0) 2)), (toI (slT (rwT (elT H 0) 0) 3))⟩, ())⟩ (fun x => Va5 x (db0 x))
theorem uc7 : g9 prog G 181 Jb8 := J5 (enc := fun x => ⟨[(.agg [(i x.na5), (i x.na6), (i x.na7), (i x.qb8)]), (.ptr 0 0 0 0)], [⟨0, 4, [[(i x.f9), (i x.b9), (i x.g7), (i x.d9)]], true, false, 0⟩]⟩) (fun a H => by kernel_rfl) (bd hf3 mc8) fun x => r9 (Eq.trans (b := va2 (fun r => (Va5 x r).run) x) (by kernel_rfl) (Cc4 (fun r => (Va5 x r).run) (fun r => r) x).symm)
structure U2 where
 c7 : List Pln
 f9 : Int
 b9 : Int
 g7 : Int
 d9 : Int
noncomputable def Aa9 : List (Nat × Sum) := [(181, Jb8)]
theorem gb9 : i6 prog G Aa9 := ⟨uc7, trivial⟩
structure H5 where
 c7 : List Pln
 is7 : Int
 f9 : Int
 b9 : Int
 g7 : Int
 d9 : Int
structure o0 where
 is8 : Int
noncomputable def db1 (p : H5) (s : o0) : St := ⟨((eL tP p.c7) :: ((.fn 181 [(.ptr 0 0 0 0)]) :: (ra 5 ((i p.is7) :: ((i s.is8) :: (ra 10 [])))))), [⟨0, 4, [[(i p.f9), (i p.b9), (i p.g7), (i p.d9)]], true, false, 0⟩]⟩
noncomputable def C5 {α : Type} (k : o0 → α) (e : Nat → α) (z : α) (p : H5) (s : o0) : α := let t1 := (db0 ⟨(gL tP p.c7 s.is8.toNat).n.x, (gL tP p.c7 s.is8.toNat).n.y, (gL tP p.c7 s.is8.toNat).n.z, (gL tP p.c7 s.is8.toNat).b, p.f9, p.b9, p.g7, p.d9⟩); (sl (decide (s.is8 < p.is7)) (sl (inB s.is8 (List.length p.c7)) (sl t1.bs0 (e 1) (k ⟨(W (s.is8 + 1))⟩)) z) (e 2))
noncomputable def E7 (p : H5) (s : o0) : Stp o0 := C5 .next .exit .fail p s
noncomputable def ea0 : Lo H5 o0 := ⟨En Aa9, 1, Ad4, [1, 0, 1, 4, 4], [0, 1, 7, 8], .p, [⟨((.s (.c 4 (nL tP))) :: ((.fn 181 [(.o (.ptr 0 0 0 0))]) :: (ru2 5 ((.s (.o (.int .i64))) :: ((.s (.o (.int .i64))) :: (ru2 10 [])))))), [⟨0, 4, true, (some [[(.o (.int .i64)), (.o (.int .i64)), (.o (.int .i64)), (.o (.int .i64))]])⟩], fun a H => (⟨(rL tP (slT a 0)), (toI (slT a 7)), (toI (slT (rwT (elT H 0) 0) 0)), (toI (slT (rwT (elT H 0) 0) 1)), (toI (slT (rwT (elT H 0) 0) 2)), (toI (slT (rwT (elT H 0) 0) 3))⟩, ⟨(toI (slT a 8))⟩)⟩], E7, [(none, fun p s => ⟨[(i s.is8)], [⟨0, 4, [[(i p.f9), (i p.b9), (i p.g7), (i p.d9)]], true, false, 0⟩]⟩), (some 0, fun p s => ⟨((eL tP p.c7) :: ((.fn 181 [(.ptr 0 0 0 0)]) :: (ra 5 ((i p.is7) :: ((i s.is8) :: ((b (decide (s.is8 < p.is7))) :: (ra 9 []))))))), [⟨0, 4, [[(i p.f9), (i p.b9), (i p.g7), (i p.d9)]], true, false, 0⟩]⟩)], db1⟩
theorem db2 : ea0.Ok := Lo.ok [] (by kernel_rfl) .nil rfl (.cons (fun a H => by kernel_rfl) .nil) fun p s => (.of @C5 (fun F _ _ _ _ _ => by unfold C5; (repeat' apply k9 (f := F)) <;> rfl) (by kernel_rfl))
structure U3 where
 alt : Nat
 is0 : Int
noncomputable def D2 {α : Type} (kk : U3 → α) (x : U2) : α := let t1 := (lp (E7 (⟨(rt tP x.c7), (↑(List.length x.c7) : Int), x.f9, x.b9, x.g7, x.d9⟩ : H5)) (⟨0⟩ : o0)); (sl ((cnE tP x.c7) && true) (sl (Nat.beq t1.1 1) (kk ⟨1, t1.2.is8⟩) (sl (Nat.beq t1.1 2) (kk ⟨1, (-1)⟩) (kk ⟨0, 0⟩))) (kk ⟨0, 0⟩))
noncomputable def U4 (x : U2) : U3 := D2 (fun r => r) x
noncomputable def ga7 (x : U2) (r : U3) : DT (b7 × List b8) := (.ite (Nat.beq r.alt 1) (.ret ((i r.is0), [⟨0, 4, [[(i x.f9), (i x.b9), (i x.g7), (i x.d9)]], true, false, 0⟩])) .fail)
theorem rb0 {α β : Type} (F : α → β) (kk : U3 → α) (x : U2) : F (D2 kk x) = D2 (fun r => F (kk r)) x := by unfold D2; (repeat' apply k9 (f := F)) <;> rfl
noncomputable def Fa1 : Sum := Pa4 ⟨[(.s (.c 4 (nL tP))), (.fn 181 [(.o (.ptr 0 0 0 0))])], [⟨0, 4, true, (some [[(.o (.int .i64)), (.o (.int .i64)), (.o (.int .i64)), (.o (.int .i64))]])⟩], fun a H => (⟨(rL tP (slT a 0)), (toI (slT (rwT (elT H 0) 0) 0)), (toI (slT (rwT (elT H 0) 0) 1)), (toI (slT (rwT (elT H 0) 0) 2)), (toI (slT (rwT (elT H 0) 0) 3))⟩, ())⟩ (fun x => ga7 x (U4 x))
theorem nb0 : g9 prog G 163 Fa1 := J5 (enc := fun x => ⟨[(eL tP x.c7), (.fn 181 [(.ptr 0 0 0 0)])], [⟨0, 4, [[(i x.f9), (i x.b9), (i x.g7), (i x.d9)]], true, false, 0⟩]⟩) (fun a H => by kernel_rfl) (bd xe5 gb9) fun x => sa6 (.s .p (.s (.s .p (.b (.u ea0.ls))) .p)) [ea0.pr] (by kernel_rfl) (.cons db2 .nil) (Eq.trans (b := D2 (fun r => (ga7 x r).run) x) (by kernel_rfl) (rb0 (fun r => (ga7 x r).run) (fun r => r) x).symm)
structure N0 where
 c7 : List Pln
 f9 : Int
 b9 : Int
 g7 : Int
 d9 : Int
noncomputable def Za8 : List (Nat × Sum) := [(163, Fa1)]
theorem Va6 : i6 prog G Za8 := ⟨nb0, trivial⟩
structure N1 where
 alt : Nat
 bs0 : Bool
noncomputable def z8 {α : Type} (kk : N1 → α) (x : N0) : α := let t1 := (U4 ⟨(rt tP x.c7), x.f9, x.b9, x.g7, x.d9⟩); (sl ((cnE tP x.c7) && true) (sl (Nat.beq t1.alt 1) (kk ⟨1, (decide (t1.is0 ≥ 0))⟩) (kk ⟨0, false⟩)) (kk ⟨0, false⟩))
noncomputable def ba7 (x : N0) : N1 := z8 (fun r => r) x
noncomputable def Z7 (x : N0) (r : N1) : DT (b7 × List b8) := (.ite (Nat.beq r.alt 1) (.ret ((b r.bs0), [⟨0, 4, [[(i x.f9), (i x.b9), (i x.g7), (i x.d9)]], true, false, 0⟩])) .fail)
theorem db3 {α β : Type} (F : α → β) (kk : N1 → α) (x : N0) : F (z8 kk x) = z8 (fun r => F (kk r)) x := by unfold z8; (repeat' apply k9 (f := F)) <;> rfl
noncomputable def va3 : Sum := Pa4 ⟨[(.s (.c 4 (nL tP))), (.fn 181 [(.o (.ptr 0 0 0 0))])], [⟨0, 4, true, (some [[(.o (.int .i64)), (.o (.int .i64)), (.o (.int .i64)), (.o (.int .i64))]])⟩], fun a H => (⟨(rL tP (slT a 0)), (toI (slT (rwT (elT H 0) 0) 0)), (toI (slT (rwT (elT H 0) 0) 1)), (toI (slT (rwT (elT H 0) 0) 2)), (toI (slT (rwT (elT H 0) 0) 3))⟩, ())⟩ (fun x => Z7 x (ba7 x))
theorem Za9 : g9 prog G 83 va3 := J5 (enc := fun x => ⟨[(eL tP x.c7), (.fn 181 [(.ptr 0 0 0 0)])], [⟨0, 4, [[(i x.f9), (i x.b9), (i x.g7), (i x.d9)]], true, false, 0⟩]⟩) (fun a H => by kernel_rfl) (bd b83 Va6) fun x => r9 (Eq.trans (b := z8 (fun r => (Z7 x r).run) x) (by kernel_rfl) (db3 (fun r => (Z7 x r).run) (fun r => r) x).symm)
noncomputable def Oc1 : List (Nat × Sum) := [(83, va3)]
theorem Cc5 : i6 prog G Oc1 := ⟨Za9, trivial⟩
noncomputable def Ha6 (x : List Pln) (y : Pt) : Option (b7 × List b8) := let t1 := (ba7 ⟨(rt tP x), y.px, y.py, y.pz, y.pw⟩); (sl ((cnE tP x) && true) (sl (Nat.beq t1.alt 1) (some ((b (!t1.bs0)), [])) none) none)
noncomputable def Y3 (x : List Pln) (y : Pt) : Bool := K5 (one r1B) (Ha6 x y)
noncomputable def Y4 (x : List Pln) (y : Pt) : Bool := okO (one r1B) (Ha6 x y)
noncomputable def Xa4 : Sum := oa1 (W7 tP) (R4 tX) (fun x y => .guard (Y4 x y) (.ret ((one r1B).enc (Y3 x y), [])))
theorem nb1 : g9 prog G 108 Xa4 := gb5 (bd ef1 Cc5) (one r1B) (o := Ha6) fun x y => r9 (by kernel_rfl)
noncomputable def Ha7 : List (Nat × Sum) := []
theorem rb1 : i6 prog G Ha7 := trivial
@[reducible] noncomputable def Na6 : Sum := i8 (En Ha7) Fe8
theorem wb7 : g9 prog G 217 Na6 := bd if3 rb1
noncomputable def Qa3 : List (Nat × Sum) := [(217, Na6)]
theorem Bb1 : i6 prog G Qa3 := ⟨wb7, trivial⟩
@[reducible] noncomputable def Ua2 : Sum := i8 (En Qa3) Ee9
theorem Gb5 : g9 prog G 170 Ua2 := bd gf0 Bb1
noncomputable def ea1 : List (Nat × Sum) := [(171, zc4), (108, Xa4), (170, Ua2)]
theorem Bb2 : i6 prog G ea1 := ⟨pd5, nb1, Gb5, trivial⟩
structure i9 where
 is3 : Int
 Q7 : List Pln
 Ta9 : Int
 X8 : Int
 rc2 : Nat
 jb3 : Nat → List b7
 ia9 : Int
 sa4 : Int
 Pd8 : Nat
 fb9 : Nat → List b7
 ud3 : Int
 d8 : List Pln
 l5 : Int
 l6 : Int
 l7 : Int
 J7 : Int
 ga0 : Int
 ga1 : Int
 ga2 : Int
 jb4 : Int
 sa5 : List Pln
structure j6 where
 ph : Nat
 wa5 : Int
 Ya3 : Nat
 eh6 : List (List b7)
 eh7 : List (List b7)
noncomputable def rb2 (p : i9) (s : j6) : St := ⟨(.unk :: ((.ptr 0 0 0 0) :: (.unk :: ((i p.is3) :: ((.ptr 1 0 0 0) :: (.unk :: ((.ptr 2 0 0 0) :: (.unk :: (.unk :: ((eL tP p.Q7) :: ((i p.Ta9) :: ((i p.X8) :: (ra 7 ((.tree 4 p.rc2 p.jb3) :: ((i p.ia9) :: ((i p.sa4) :: (ra 9 ((.tree 4 p.Pd8 p.fb9) :: ((i p.ud3) :: ((i s.wa5) :: (ra 13 ((i 0) :: (.unk :: ((.ptr 3 0 0 0) :: ((.v (.slice none 0 0)) :: ((.ptr 4 0 0 0) :: ((.ptr 5 0 0 0) :: (ra 31 [])))))))))))))))))))))))))))), [⟨0, 1, [[(eL tP p.d8)]], true, false, 0⟩, ⟨0, 4, [[(i p.l5), (i p.l6), (i p.l7), (i p.J7)]], true, false, 0⟩, ⟨0, 4, [[(i p.ga0), (i p.ga1), (i p.ga2), (i p.jb4)]], true, false, 0⟩, ⟨0, 1, [[(eL tP p.sa5)]], true, false, 0⟩, ⟨0, 0, [[(.v (.slice none 0 0))]], true, false, 0⟩, ⟨0, 0, [[(.ptr 6 0 0 0)]], true, false, 0⟩, ⟨174, 0, [], true, false, 0⟩]⟩
noncomputable def rb3 (p : i9) (s : j6) : St := ⟨(.unk :: ((.ptr 0 0 0 0) :: (.unk :: ((i p.is3) :: ((.ptr 1 0 0 0) :: (.unk :: ((.ptr 2 0 0 0) :: (.unk :: (.unk :: ((eL tP p.Q7) :: ((i p.Ta9) :: ((i p.X8) :: (ra 7 ((.tree 4 p.rc2 p.jb3) :: ((i p.ia9) :: ((i p.sa4) :: (ra 9 ((.tree 4 p.Pd8 p.fb9) :: ((i p.ud3) :: ((i s.wa5) :: (ra 13 ((i 0) :: (.unk :: ((.ptr 3 0 0 0) :: ((.v (.slice none 0 0)) :: ((.ptr 4 0 0 0) :: ((.ptr 5 0 0 0) :: (ra 31 [])))))))))))))))))))))))))))), [⟨0, 1, [[(eL tP p.d8)]], true, false, 0⟩, ⟨0, 4, [[(i p.l5), (i p.l6), (i p.l7), (i p.J7)]], true, false, 0⟩, ⟨0, 4, [[(i p.ga0), (i p.ga1), (i p.ga2), (i p.jb4)]], true, false, 0⟩, ⟨0, 1, [[(eL tP p.sa5)]], true, false, 0⟩, ⟨0, 0, [[(.sl 6 0 s.Ya3 0)]], true, false, 0⟩, ⟨0, 0, [[(.ptr 7 0 0 0)]], true, false, 0⟩, ⟨54, 4, s.eh6, true, false, 0⟩, ⟨174, 0, s.eh7, true, false, 0⟩]⟩
noncomputable def wb8 (p : i9) (s : j6) : St := (sel (Nat.beq s.ph 1) (rb3 p s) (rb2 p s))
noncomputable def y5 {α : Type} (k : j6 → α) (e : Nat → α) (z : α) (p : i9) (s : j6) : α := let t1 := (Za6 (⟨(⟨(⟨p.l5, p.l6, p.l7⟩ : V3), p.J7⟩ : Pln), (⟨(⟨p.ga0, p.ga1, p.ga2⟩ : V3), p.jb4⟩ : Pln), (⟨(⟨(toI (hdA (p.fb9 s.wa5.toNat))), (toI (hdA (tlA (p.fb9 s.wa5.toNat)))), (toI (hdA (tlA (tlA (p.fb9 s.wa5.toNat)))))⟩ : V3), (toI (hdA (tlA (tlA (tlA (p.fb9 s.wa5.toNat))))))⟩ : Pln)⟩ : Tp)); let t2 := (Y3 (rt tP p.sa5) t1.1); (sl (decide (s.wa5 < p.ud3)) (sl (inB s.wa5 p.Pd8) (sl ((Nat.ble 4 (len (p.fb9 s.wa5.toNat))) && (J8 [(CK.int .i64), (CK.int .i64), (CK.int .i64), (CK.int .i64)] (p.fb9 s.wa5.toNat))) (sl (Za7 (⟨(⟨(⟨p.l5, p.l6, p.l7⟩ : V3), p.J7⟩ : Pln), (⟨(⟨p.ga0, p.ga1, p.ga2⟩ : V3), p.jb4⟩ : Pln), (⟨(⟨(toI (hdA (p.fb9 s.wa5.toNat))), (toI (hdA (tlA (p.fb9 s.wa5.toNat)))), (toI (hdA (tlA (tlA (p.fb9 s.wa5.toNat)))))⟩ : V3), (toI (hdA (tlA (tlA (tlA (p.fb9 s.wa5.toNat))))))⟩ : Pln)⟩ : Tp)) (sl t1.2 (sl (!(ic0 4 [(0, (.int .i64)), (1, (.int .i64)), (2, (.int .i64)), (3, (.int .i64))] [(i t1.1.px), (i t1.1.py), (i t1.1.pz), (i t1.1.pw)] [])) (sl (okE tP p.sa5) (sl (Y4 (rt tP p.sa5) t1.1) (sl t2 (k ⟨1, (W (s.wa5 + 1)), 1, [[(i t1.1.px), (i t1.1.py), (i t1.1.pz), (i t1.1.pw)]], (vb8 [(0, (.int .i64)), (1, (.int .i64)), (2, (.int .i64)), (3, (.int .i64))] [(i t1.1.px), (i t1.1.py), (i t1.1.pz), (i t1.1.pw)] [(i t1.1.px), (i t1.1.py), (i t1.1.pz), (i t1.1.pw), (b true)] [])⟩) (k ⟨0, (W (s.wa5 + 1)), 0, [], []⟩)) z) z) (k ⟨0, (W (s.wa5 + 1)), 0, [], []⟩)) (k ⟨0, (W (s.wa5 + 1)), 0, [], []⟩)) z) z) z) (e 1))
noncomputable def y6 {α : Type} (k : j6 → α) (e : Nat → α) (z : α) (p : i9) (s : j6) : α := let t1 := (Za6 (⟨(⟨(⟨p.l5, p.l6, p.l7⟩ : V3), p.J7⟩ : Pln), (⟨(⟨p.ga0, p.ga1, p.ga2⟩ : V3), p.jb4⟩ : Pln), (⟨(⟨(toI (hdA (p.fb9 s.wa5.toNat))), (toI (hdA (tlA (p.fb9 s.wa5.toNat)))), (toI (hdA (tlA (tlA (p.fb9 s.wa5.toNat)))))⟩ : V3), (toI (hdA (tlA (tlA (tlA (p.fb9 s.wa5.toNat))))))⟩ : Pln)⟩ : Tp)); let t2 := (Y3 (rt tP p.sa5) t1.1); (sl (decide (s.wa5 < p.ud3)) (sl (inB s.wa5 p.Pd8) (sl ((Nat.ble 4 (len (p.fb9 s.wa5.toNat))) && (J8 [(CK.int .i64), (CK.int .i64), (CK.int .i64), (CK.int .i64)] (p.fb9 s.wa5.toNat))) (sl (Za7 (⟨(⟨(⟨p.l5, p.l6, p.l7⟩ : V3), p.J7⟩ : Pln), (⟨(⟨p.ga0, p.ga1, p.ga2⟩ : V3), p.jb4⟩ : Pln), (⟨(⟨(toI (hdA (p.fb9 s.wa5.toNat))), (toI (hdA (tlA (p.fb9 s.wa5.toNat)))), (toI (hdA (tlA (tlA (p.fb9 s.wa5.toNat)))))⟩ : V3), (toI (hdA (tlA (tlA (tlA (p.fb9 s.wa5.toNat))))))⟩ : Pln)⟩ : Tp)) (sl t1.2 (sl (!(ic0 4 [(0, (.int .i64)), (1, (.int .i64)), (2, (.int .i64)), (3, (.int .i64))] [(i t1.1.px), (i t1.1.py), (i t1.1.pz), (i t1.1.pw)] s.eh7)) (sl (okE tP p.sa5) (sl (Y4 (rt tP p.sa5) t1.1) (sl t2 (sl (Nat.beq s.Ya3 (len s.eh6) && Nat.ble ((s.Ya3 + 1) * 32) room) (k ⟨1, (W (s.wa5 + 1)), (s.Ya3 + 1), (app s.eh6 [[(i t1.1.px), (i t1.1.py), (i t1.1.pz), (i t1.1.pw)]]), (vb8 [(0, (.int .i64)), (1, (.int .i64)), (2, (.int .i64)), (3, (.int .i64))] [(i t1.1.px), (i t1.1.py), (i t1.1.pz), (i t1.1.pw)] [(i t1.1.px), (i t1.1.py), (i t1.1.pz), (i t1.1.pw), (b true)] s.eh7)⟩) z) (k ⟨1, (W (s.wa5 + 1)), s.Ya3, s.eh6, s.eh7⟩)) z) z) (k ⟨1, (W (s.wa5 + 1)), s.Ya3, s.eh6, s.eh7⟩)) (k ⟨1, (W (s.wa5 + 1)), s.Ya3, s.eh6, s.eh7⟩)) z) z) z) (e 2))
noncomputable def v8 (p : i9) (s : j6) : Stp j6 := (sel (Nat.beq s.ph 1) (y6 .next .exit .fail p s) (y5 .next .exit .fail p s))
noncomputable def qa2 : Lo i9 j6 := ⟨En ea1, 0, xe3, [1, 1, 1, 0, 1, 4, 4, 1, 4, 4, 1, 1, 0, 4, 1, 1, 4, 4, 1, 1, 0, 4, 1, 1, 4, 4], [1, 3, 4, 6, 9, 10, 11, 19, 20, 21, 31, 32, 33, 47, 49, 50, 51, 52], .p, [⟨((.s (.o .unk)) :: ((.s (.o (.ptr 0 0 0 0))) :: ((.s (.o .unk)) :: ((.s (.o (.int .i64))) :: ((.s (.o (.ptr 1 0 0 0))) :: ((.s (.o .unk)) :: ((.s (.o (.ptr 2 0 0 0))) :: ((.s (.o .unk)) :: ((.s (.o .unk)) :: ((.s (.c 4 (nL tP))) :: ((.s (.o (.int .i64))) :: ((.s (.o (.int .i64))) :: (ru2 7 ((.s (.o (.tree 4))) :: ((.s (.o (.int .i64))) :: ((.s (.o (.int .i64))) :: (ru2 9 ((.s (.o (.tree 4))) :: ((.s (.o (.int .i64))) :: ((.s (.o (.int .i64))) :: (ru2 13 ((.s (.o (.lit .i64 0))) :: ((.s (.o .unk)) :: ((.s (.o (.ptr 3 0 0 0))) :: ((.s (.o .nil)) :: ((.s (.o (.ptr 4 0 0 0))) :: ((.s (.o (.ptr 5 0 0 0))) :: (ru2 31 [])))))))))))))))))))))))))))), [⟨0, 1, true, (some [[(.c 4 (nL tP))]])⟩, ⟨0, 4, true, (some [[(.o (.int .i64)), (.o (.int .i64)), (.o (.int .i64)), (.o (.int .i64))]])⟩, ⟨0, 4, true, (some [[(.o (.int .i64)), (.o (.int .i64)), (.o (.int .i64)), (.o (.int .i64))]])⟩, ⟨0, 1, true, (some [[(.c 4 (nL tP))]])⟩, ⟨0, 0, true, (some [[(.o .nil)]])⟩, ⟨0, 0, true, (some [[(.o (.ptr 6 0 0 0))]])⟩, ⟨174, 0, true, (some [])⟩], fun a H => (⟨(toI (slT a 3)), (rL tP (slT a 9)), (toI (slT a 10)), (toI (slT a 11)), (toN (slT a 19)), (toG (slT a 19)), (toI (slT a 20)), (toI (slT a 21)), (toN (slT a 31)), (toG (slT a 31)), (toI (slT a 32)), (rL tP (slT (rwT (elT H 0) 0) 0)), (toI (slT (rwT (elT H 1) 0) 0)), (toI (slT (rwT (elT H 1) 0) 1)), (toI (slT (rwT (elT H 1) 0) 2)), (toI (slT (rwT (elT H 1) 0) 3)), (toI (slT (rwT (elT H 2) 0) 0)), (toI (slT (rwT (elT H 2) 0) 1)), (toI (slT (rwT (elT H 2) 0) 2)), (toI (slT (rwT (elT H 2) 0) 3)), (rL tP (slT (rwT (elT H 3) 0) 0))⟩, ⟨0, (toI (slT a 33)), 0, [], []⟩)⟩, ⟨((.s (.o .unk)) :: ((.s (.o (.ptr 0 0 0 0))) :: ((.s (.o .unk)) :: ((.s (.o (.int .i64))) :: ((.s (.o (.ptr 1 0 0 0))) :: ((.s (.o .unk)) :: ((.s (.o (.ptr 2 0 0 0))) :: ((.s (.o .unk)) :: ((.s (.o .unk)) :: ((.s (.c 4 (nL tP))) :: ((.s (.o (.int .i64))) :: ((.s (.o (.int .i64))) :: (ru2 7 ((.s (.o (.tree 4))) :: ((.s (.o (.int .i64))) :: ((.s (.o (.int .i64))) :: (ru2 9 ((.s (.o (.tree 4))) :: ((.s (.o (.int .i64))) :: ((.s (.o (.int .i64))) :: (ru2 13 ((.s (.o (.lit .i64 0))) :: ((.s (.o .unk)) :: ((.s (.o (.ptr 3 0 0 0))) :: ((.s (.o .nil)) :: ((.s (.o (.ptr 4 0 0 0))) :: ((.s (.o (.ptr 5 0 0 0))) :: (ru2 31 [])))))))))))))))))))))))))))), [⟨0, 1, true, (some [[(.c 4 (nL tP))]])⟩, ⟨0, 4, true, (some [[(.o (.int .i64)), (.o (.int .i64)), (.o (.int .i64)), (.o (.int .i64))]])⟩, ⟨0, 4, true, (some [[(.o (.int .i64)), (.o (.int .i64)), (.o (.int .i64)), (.o (.int .i64))]])⟩, ⟨0, 1, true, (some [[(.c 4 (nL tP))]])⟩, ⟨0, 0, true, (some [[(.o (.sl 6 0 (some 0) none))]])⟩, ⟨0, 0, true, (some [[(.o (.ptr 7 0 0 0))]])⟩, ⟨54, 4, true, none⟩, ⟨174, 0, true, none⟩], fun a H => (⟨(toI (slT a 3)), (rL tP (slT a 9)), (toI (slT a 10)), (toI (slT a 11)), (toN (slT a 19)), (toG (slT a 19)), (toI (slT a 20)), (toI (slT a 21)), (toN (slT a 31)), (toG (slT a 31)), (toI (slT a 32)), (rL tP (slT (rwT (elT H 0) 0) 0)), (toI (slT (rwT (elT H 1) 0) 0)), (toI (slT (rwT (elT H 1) 0) 1)), (toI (slT (rwT (elT H 1) 0) 2)), (toI (slT (rwT (elT H 1) 0) 3)), (toI (slT (rwT (elT H 2) 0) 0)), (toI (slT (rwT (elT H 2) 0) 1)), (toI (slT (rwT (elT H 2) 0) 2)), (toI (slT (rwT (elT H 2) 0) 3)), (rL tP (slT (rwT (elT H 3) 0) 0))⟩, ⟨1, (toI (slT a 33)), (slN (slT (rwT (elT H 4) 0) 0)), (elT H 6), (elT H 7)⟩)⟩], v8, [(some 4, fun p s => ⟨(.unk :: ((.ptr 0 0 0 0) :: (.unk :: ((i p.is3) :: ((.ptr 1 0 0 0) :: (.unk :: ((.ptr 2 0 0 0) :: (.unk :: (.unk :: ((eL tP p.Q7) :: ((i p.Ta9) :: ((i p.X8) :: (ra 7 ((.tree 4 p.rc2 p.jb3) :: ((i p.ia9) :: ((i p.sa4) :: (ra 9 ((.tree 4 p.Pd8 p.fb9) :: ((i p.ud3) :: ((i s.wa5) :: ((b (decide (s.wa5 < p.ud3))) :: (ra 12 ((i 0) :: (.unk :: ((.ptr 3 0 0 0) :: ((.v (.slice none 0 0)) :: ((.ptr 4 0 0 0) :: ((.ptr 5 0 0 0) :: (ra 31 []))))))))))))))))))))))))))))), [⟨0, 1, [[(eL tP p.d8)]], true, false, 0⟩, ⟨0, 4, [[(i p.l5), (i p.l6), (i p.l7), (i p.J7)]], true, false, 0⟩, ⟨0, 4, [[(i p.ga0), (i p.ga1), (i p.ga2), (i p.jb4)]], true, false, 0⟩, ⟨0, 1, [[(eL tP p.sa5)]], true, false, 0⟩, ⟨0, 0, [[(.v (.slice none 0 0))]], true, false, 0⟩, ⟨0, 0, [[(.ptr 6 0 0 0)]], true, false, 0⟩, ⟨174, 0, [], true, false, 0⟩]⟩), (some 4, fun p s => ⟨(.unk :: ((.ptr 0 0 0 0) :: (.unk :: ((i p.is3) :: ((.ptr 1 0 0 0) :: (.unk :: ((.ptr 2 0 0 0) :: (.unk :: (.unk :: ((eL tP p.Q7) :: ((i p.Ta9) :: ((i p.X8) :: (ra 7 ((.tree 4 p.rc2 p.jb3) :: ((i p.ia9) :: ((i p.sa4) :: (ra 9 ((.tree 4 p.Pd8 p.fb9) :: ((i p.ud3) :: ((i s.wa5) :: ((b (decide (s.wa5 < p.ud3))) :: (ra 12 ((i 0) :: (.unk :: ((.ptr 3 0 0 0) :: ((.v (.slice none 0 0)) :: ((.ptr 4 0 0 0) :: ((.ptr 5 0 0 0) :: (ra 31 []))))))))))))))))))))))))))))), [⟨0, 1, [[(eL tP p.d8)]], true, false, 0⟩, ⟨0, 4, [[(i p.l5), (i p.l6), (i p.l7), (i p.J7)]], true, false, 0⟩, ⟨0, 4, [[(i p.ga0), (i p.ga1), (i p.ga2), (i p.jb4)]], true, false, 0⟩, ⟨0, 1, [[(eL tP p.sa5)]], true, false, 0⟩, ⟨0, 0, [[(.sl 6 0 s.Ya3 0)]], true, false, 0⟩, ⟨0, 0, [[(.ptr 7 0 0 0)]], true, false, 0⟩, ⟨54, 4, s.eh6, true, false, 0⟩, ⟨174, 0, s.eh7, true, false, 0⟩]⟩)], wb8⟩
theorem wb9 : qa2.OkM := Lo.okM [] (by kernel_rfl) .nil rfl (.cons (fun a H => by kernel_rfl) (.cons (fun a H => by kernel_rfl) .nil)) fun p s => (.sel (Nat.beq s.ph 1) (.of @y6 (fun F _ _ _ _ _ => by unfold y6; (repeat' apply k9 (f := F)) <;> rfl) (by kernel_rfl)) (.of @y5 (fun F _ _ _ _ _ => by unfold y5; (repeat' apply k9 (f := F)) <;> rfl) (by kernel_rfl)))
structure j7 where
 is3 : Int
 Ta9 : Int
 X8 : Int
 rc2 : Nat
 jb3 : Nat → List b7
 ia9 : Int
 l5 : Int
 l6 : Int
 l7 : Int
 J7 : Int
structure j8 where
 ph : Nat
 Q7 : List Pln
 sa4 : Int
 d8 : List Pln
 T7 : List Pln
 rc3 : Nat
 eh5 : List (List b7)
 eh6 : List (List b7)
noncomputable def rb4 (p : j7) (s : j8) : St := ⟨(.unk :: ((.ptr 0 0 0 0) :: (.unk :: ((i p.is3) :: ((.ptr 1 0 0 0) :: (ra 4 ((eL tP s.Q7) :: ((i p.Ta9) :: ((i p.X8) :: (ra 7 ((.tree 4 p.rc2 p.jb3) :: ((i p.ia9) :: ((i s.sa4) :: (ra 25 ((i 0) :: (.unk :: ((.ptr 2 0 0 0) :: ((.v (.slice none 0 0)) :: ((.ptr 3 0 0 0) :: ((.ptr 4 0 0 0) :: (ra 31 []))))))))))))))))))))), [⟨0, 1, [[(eL tP s.d8)]], true, false, 0⟩, ⟨0, 4, [[(i p.l5), (i p.l6), (i p.l7), (i p.J7)]], true, false, 0⟩, ⟨0, 1, [[(eL tP s.T7)]], true, false, 0⟩, ⟨0, 0, [[(.v (.slice none 0 0))]], true, false, 0⟩, ⟨0, 0, [[(.ptr 5 0 0 0)]], true, false, 0⟩, ⟨174, 0, [], true, false, 0⟩]⟩
noncomputable def rb5 (p : j7) (s : j8) : St := ⟨(.unk :: ((.ptr 0 0 0 0) :: (.unk :: ((i p.is3) :: ((.ptr 1 0 0 0) :: (ra 4 ((eL tP s.Q7) :: ((i p.Ta9) :: ((i p.X8) :: (ra 7 ((.tree 4 p.rc2 p.jb3) :: ((i p.ia9) :: ((i s.sa4) :: (ra 25 ((i 0) :: (.unk :: ((.ptr 2 0 0 0) :: ((.v (.slice none 0 0)) :: ((.ptr 3 0 0 0) :: ((.ptr 4 0 0 0) :: (ra 31 []))))))))))))))))))))), [⟨0, 1, [[(eL tP s.d8)]], true, false, 0⟩, ⟨0, 4, [[(i p.l5), (i p.l6), (i p.l7), (i p.J7)]], true, false, 0⟩, ⟨0, 1, [[(eL tP s.T7)]], true, false, 0⟩, ⟨0, 0, [[(.sl 5 0 s.rc3 0)]], true, false, 0⟩, ⟨0, 0, [[(.ptr 6 0 0 0)]], true, false, 0⟩, ⟨54, 4, s.eh5, true, false, 0⟩, ⟨174, 0, s.eh6, true, false, 0⟩]⟩
noncomputable def xb0 (p : j7) (s : j8) : St := (sel (Nat.beq s.ph 1) (rb5 p s) (rb4 p s))
noncomputable def y7 {α : Type} (k : j8 → α) (e : Nat → α) (z : α) (p : j7) (s : j8) : α := let t1 := (lp (v8 (⟨p.is3, (rt tP s.Q7), p.Ta9, p.X8, p.rc2, p.jb3, p.ia9, s.sa4, ((List.length s.d8) - (W ((W (p.is3 + s.sa4)) + 2)).toNat), (fun k => (fun k => (tP).row (gL tP s.d8 k)) ((W ((W (p.is3 + s.sa4)) + 2)).toNat + k)), (↑((List.length s.d8) - (W ((W (p.is3 + s.sa4)) + 2)).toNat) : Int), (rt tP s.d8), p.l5, p.l6, p.l7, p.J7, (toI (hdA (p.jb3 s.sa4.toNat))), (toI (hdA (tlA (p.jb3 s.sa4.toNat)))), (toI (hdA (tlA (tlA (p.jb3 s.sa4.toNat))))), (toI (hdA (tlA (tlA (tlA (p.jb3 s.sa4.toNat)))))), (rt tP s.T7)⟩ : i9)) (⟨0, 0, 0, [], []⟩ : j6)); (sl (decide (s.sa4 < p.ia9)) (sl (inB s.sa4 p.rc2) (sl ((Nat.ble 4 (len (p.jb3 s.sa4.toNat))) && (J8 [(CK.int .i64), (CK.int .i64), (CK.int .i64), (CK.int .i64)] (p.jb3 s.sa4.toNat))) (sl (inB (W ((W (p.is3 + s.sa4)) + 2)) ((List.length s.d8) + 1)) (sl ((cnE tP s.Q7) && ((cnE tP s.d8) && ((cnE tP s.T7) && true))) (sl (Nat.beq t1.1 1) (k ⟨0, (rt tP s.Q7), (W (s.sa4 + 1)), (rt tP s.d8), (rt tP s.T7), 0, [], []⟩) (sl (Nat.beq t1.1 2) (k ⟨1, (rt tP s.Q7), (W (s.sa4 + 1)), (rt tP s.d8), (rt tP s.T7), t1.2.Ya3, t1.2.eh6, t1.2.eh7⟩) z)) z) z) z) z) (e 1))
noncomputable def y8 {α : Type} (k : j8 → α) (e : Nat → α) (z : α) (p : j7) (s : j8) : α := let t1 := (lp (v8 (⟨p.is3, (rt tP s.Q7), p.Ta9, p.X8, p.rc2, p.jb3, p.ia9, s.sa4, ((List.length s.d8) - (W ((W (p.is3 + s.sa4)) + 2)).toNat), (fun k => (fun k => (tP).row (gL tP s.d8 k)) ((W ((W (p.is3 + s.sa4)) + 2)).toNat + k)), (↑((List.length s.d8) - (W ((W (p.is3 + s.sa4)) + 2)).toNat) : Int), (rt tP s.d8), p.l5, p.l6, p.l7, p.J7, (toI (hdA (p.jb3 s.sa4.toNat))), (toI (hdA (tlA (p.jb3 s.sa4.toNat)))), (toI (hdA (tlA (tlA (p.jb3 s.sa4.toNat))))), (toI (hdA (tlA (tlA (tlA (p.jb3 s.sa4.toNat)))))), (rt tP s.T7)⟩ : i9)) (⟨1, 0, s.rc3, s.eh5, s.eh6⟩ : j6)); (sl (decide (s.sa4 < p.ia9)) (sl (inB s.sa4 p.rc2) (sl ((Nat.ble 4 (len (p.jb3 s.sa4.toNat))) && (J8 [(CK.int .i64), (CK.int .i64), (CK.int .i64), (CK.int .i64)] (p.jb3 s.sa4.toNat))) (sl (inB (W ((W (p.is3 + s.sa4)) + 2)) ((List.length s.d8) + 1)) (sl ((cnE tP s.Q7) && ((cnE tP s.d8) && ((cnE tP s.T7) && true))) (sl (Nat.beq t1.1 1) (k ⟨0, (rt tP s.Q7), (W (s.sa4 + 1)), (rt tP s.d8), (rt tP s.T7), 0, [], []⟩) (sl (Nat.beq t1.1 2) (k ⟨1, (rt tP s.Q7), (W (s.sa4 + 1)), (rt tP s.d8), (rt tP s.T7), t1.2.Ya3, t1.2.eh6, t1.2.eh7⟩) z)) z) z) z) z) (e 2))
noncomputable def v9 (p : j7) (s : j8) : Stp j8 := (sel (Nat.beq s.ph 1) (y8 .next .exit .fail p s) (y7 .next .exit .fail p s))
noncomputable def qa3 : Lo j7 j8 := ⟨En ea1, 0, xe3, [1, 1, 1, 0, 1, 4, 4, 1, 4, 4, 1, 1, 0, 4, 1, 1, 4, 4], [1, 3, 4, 9, 10, 11, 19, 20, 21, 47, 49, 50, 51, 52], (.s .p (.s .p (.s (.b (.s .p (.s .p (.b (.u qa2.lsM))))) .p))), [⟨((.s (.o .unk)) :: ((.s (.o (.ptr 0 0 0 0))) :: ((.s (.o .unk)) :: ((.s (.o (.int .i64))) :: ((.s (.o (.ptr 1 0 0 0))) :: (ru2 4 ((.s (.c 4 (nL tP))) :: ((.s (.o (.int .i64))) :: ((.s (.o (.int .i64))) :: (ru2 7 ((.s (.o (.tree 4))) :: ((.s (.o (.int .i64))) :: ((.s (.o (.int .i64))) :: (ru2 25 ((.s (.o (.lit .i64 0))) :: ((.s (.o .unk)) :: ((.s (.o (.ptr 2 0 0 0))) :: ((.s (.o .nil)) :: ((.s (.o (.ptr 3 0 0 0))) :: ((.s (.o (.ptr 4 0 0 0))) :: (ru2 31 []))))))))))))))))))))), [⟨0, 1, true, (some [[(.c 4 (nL tP))]])⟩, ⟨0, 4, true, (some [[(.o (.int .i64)), (.o (.int .i64)), (.o (.int .i64)), (.o (.int .i64))]])⟩, ⟨0, 1, true, (some [[(.c 4 (nL tP))]])⟩, ⟨0, 0, true, (some [[(.o .nil)]])⟩, ⟨0, 0, true, (some [[(.o (.ptr 5 0 0 0))]])⟩, ⟨174, 0, true, (some [])⟩], fun a H => (⟨(toI (slT a 3)), (toI (slT a 10)), (toI (slT a 11)), (toN (slT a 19)), (toG (slT a 19)), (toI (slT a 20)), (toI (slT (rwT (elT H 1) 0) 0)), (toI (slT (rwT (elT H 1) 0) 1)), (toI (slT (rwT (elT H 1) 0) 2)), (toI (slT (rwT (elT H 1) 0) 3))⟩, ⟨0, (rL tP (slT a 9)), (toI (slT a 21)), (rL tP (slT (rwT (elT H 0) 0) 0)), (rL tP (slT (rwT (elT H 2) 0) 0)), 0, [], []⟩)⟩, ⟨((.s (.o .unk)) :: ((.s (.o (.ptr 0 0 0 0))) :: ((.s (.o .unk)) :: ((.s (.o (.int .i64))) :: ((.s (.o (.ptr 1 0 0 0))) :: (ru2 4 ((.s (.c 4 (nL tP))) :: ((.s (.o (.int .i64))) :: ((.s (.o (.int .i64))) :: (ru2 7 ((.s (.o (.tree 4))) :: ((.s (.o (.int .i64))) :: ((.s (.o (.int .i64))) :: (ru2 25 ((.s (.o (.lit .i64 0))) :: ((.s (.o .unk)) :: ((.s (.o (.ptr 2 0 0 0))) :: ((.s (.o .nil)) :: ((.s (.o (.ptr 3 0 0 0))) :: ((.s (.o (.ptr 4 0 0 0))) :: (ru2 31 []))))))))))))))))))))), [⟨0, 1, true, (some [[(.c 4 (nL tP))]])⟩, ⟨0, 4, true, (some [[(.o (.int .i64)), (.o (.int .i64)), (.o (.int .i64)), (.o (.int .i64))]])⟩, ⟨0, 1, true, (some [[(.c 4 (nL tP))]])⟩, ⟨0, 0, true, (some [[(.o (.sl 5 0 (some 0) none))]])⟩, ⟨0, 0, true, (some [[(.o (.ptr 6 0 0 0))]])⟩, ⟨54, 4, true, none⟩, ⟨174, 0, true, none⟩], fun a H => (⟨(toI (slT a 3)), (toI (slT a 10)), (toI (slT a 11)), (toN (slT a 19)), (toG (slT a 19)), (toI (slT a 20)), (toI (slT (rwT (elT H 1) 0) 0)), (toI (slT (rwT (elT H 1) 0) 1)), (toI (slT (rwT (elT H 1) 0) 2)), (toI (slT (rwT (elT H 1) 0) 3))⟩, ⟨1, (rL tP (slT a 9)), (toI (slT a 21)), (rL tP (slT (rwT (elT H 0) 0) 0)), (rL tP (slT (rwT (elT H 2) 0) 0)), (slN (slT (rwT (elT H 3) 0) 0)), (elT H 5), (elT H 6)⟩)⟩], v9, [(some 2, fun p s => ⟨(.unk :: ((.ptr 0 0 0 0) :: (.unk :: ((i p.is3) :: ((.ptr 1 0 0 0) :: (ra 4 ((eL tP s.Q7) :: ((i p.Ta9) :: ((i p.X8) :: (ra 7 ((.tree 4 p.rc2 p.jb3) :: ((i p.ia9) :: ((i s.sa4) :: ((b (decide (s.sa4 < p.ia9))) :: (ra 24 ((i 0) :: (.unk :: ((.ptr 2 0 0 0) :: ((.v (.slice none 0 0)) :: ((.ptr 3 0 0 0) :: ((.ptr 4 0 0 0) :: (ra 31 [])))))))))))))))))))))), [⟨0, 1, [[(eL tP s.d8)]], true, false, 0⟩, ⟨0, 4, [[(i p.l5), (i p.l6), (i p.l7), (i p.J7)]], true, false, 0⟩, ⟨0, 1, [[(eL tP s.T7)]], true, false, 0⟩, ⟨0, 0, [[(.v (.slice none 0 0))]], true, false, 0⟩, ⟨0, 0, [[(.ptr 5 0 0 0)]], true, false, 0⟩, ⟨174, 0, [], true, false, 0⟩]⟩), (some 2, fun p s => ⟨(.unk :: ((.ptr 0 0 0 0) :: (.unk :: ((i p.is3) :: ((.ptr 1 0 0 0) :: (ra 4 ((eL tP s.Q7) :: ((i p.Ta9) :: ((i p.X8) :: (ra 7 ((.tree 4 p.rc2 p.jb3) :: ((i p.ia9) :: ((i s.sa4) :: ((b (decide (s.sa4 < p.ia9))) :: (ra 24 ((i 0) :: (.unk :: ((.ptr 2 0 0 0) :: ((.v (.slice none 0 0)) :: ((.ptr 3 0 0 0) :: ((.ptr 4 0 0 0) :: (ra 31 [])))))))))))))))))))))), [⟨0, 1, [[(eL tP s.d8)]], true, false, 0⟩, ⟨0, 4, [[(i p.l5), (i p.l6), (i p.l7), (i p.J7)]], true, false, 0⟩, ⟨0, 1, [[(eL tP s.T7)]], true, false, 0⟩, ⟨0, 0, [[(.sl 5 0 s.rc3 0)]], true, false, 0⟩, ⟨0, 0, [[(.ptr 6 0 0 0)]], true, false, 0⟩, ⟨54, 4, s.eh5, true, false, 0⟩, ⟨174, 0, s.eh6, true, false, 0⟩]⟩)], xb0⟩
theorem xb1 : qa3.OkM := Lo.okM [qa2.prM] (by kernel_rfl) (.cons wb9 .nil) rfl (.cons (fun a H => by kernel_rfl) (.cons (fun a H => by kernel_rfl) .nil)) fun p s => (.sel (Nat.beq s.ph 1) (.of @y8 (fun F _ _ _ _ _ => by unfold y8; (repeat' apply k9 (f := F)) <;> rfl) (by kernel_rfl)) (.of @y7 (fun F _ _ _ _ _ => by unfold y7; (repeat' apply k9 (f := F)) <;> rfl) (by kernel_rfl)))
structure p9 where
 Ta9 : Int
structure l8 where
 ph : Nat
 Q7 : List Pln
 X8 : Int
 d8 : List Pln
 Oa1 : List Pln
 Hc1 : Nat
 eh4 : List (List b7)
 eh5 : List (List b7)
noncomputable def rb6 (p : p9) (s : l8) : St := ⟨(.unk :: ((.ptr 0 0 0 0) :: (ra 7 ((eL tP s.Q7) :: ((i p.Ta9) :: ((i s.X8) :: (ra 35 ((i 0) :: (.unk :: ((.ptr 1 0 0 0) :: ((.v (.slice none 0 0)) :: ((.ptr 2 0 0 0) :: ((.ptr 3 0 0 0) :: (ra 31 [])))))))))))))), [⟨0, 1, [[(eL tP s.d8)]], true, false, 0⟩, ⟨0, 1, [[(eL tP s.Oa1)]], true, false, 0⟩, ⟨0, 0, [[(.v (.slice none 0 0))]], true, false, 0⟩, ⟨0, 0, [[(.ptr 4 0 0 0)]], true, false, 0⟩, ⟨174, 0, [], true, false, 0⟩]⟩
noncomputable def rb7 (p : p9) (s : l8) : St := ⟨(.unk :: ((.ptr 0 0 0 0) :: (ra 7 ((eL tP s.Q7) :: ((i p.Ta9) :: ((i s.X8) :: (ra 35 ((i 0) :: (.unk :: ((.ptr 1 0 0 0) :: ((.v (.slice none 0 0)) :: ((.ptr 2 0 0 0) :: ((.ptr 3 0 0 0) :: (ra 31 [])))))))))))))), [⟨0, 1, [[(eL tP s.d8)]], true, false, 0⟩, ⟨0, 1, [[(eL tP s.Oa1)]], true, false, 0⟩, ⟨0, 0, [[(.sl 4 0 s.Hc1 0)]], true, false, 0⟩, ⟨0, 0, [[(.ptr 5 0 0 0)]], true, false, 0⟩, ⟨54, 4, s.eh4, true, false, 0⟩, ⟨174, 0, s.eh5, true, false, 0⟩]⟩
noncomputable def xb2 (p : p9) (s : l8) : St := (sel (Nat.beq s.ph 1) (rb7 p s) (rb6 p s))
noncomputable def y9 {α : Type} (k : l8 → α) (e : Nat → α) (z : α) (p : p9) (s : l8) : α := let t1 := (lp (v9 (⟨s.X8, p.Ta9, s.X8, ((List.length s.d8) - (W (s.X8 + 1)).toNat), (fun k => (fun k => (tP).row (gL tP s.d8 k)) ((W (s.X8 + 1)).toNat + k)), (↑((List.length s.d8) - (W (s.X8 + 1)).toNat) : Int), (gL tP s.Q7 s.X8.toNat).n.x, (gL tP s.Q7 s.X8.toNat).n.y, (gL tP s.Q7 s.X8.toNat).n.z, (gL tP s.Q7 s.X8.toNat).b⟩ : j7)) (⟨0, (rt tP s.Q7), 0, (rt tP s.d8), (rt tP s.Oa1), 0, [], []⟩ : j8)); (sl (decide (s.X8 < p.Ta9)) (sl (inB s.X8 (List.length s.Q7)) (sl (inB (W (s.X8 + 1)) ((List.length s.d8) + 1)) (sl ((cnE tP s.Q7) && ((cnE tP s.d8) && ((cnE tP s.Oa1) && true))) (sl (Nat.beq t1.1 1) (k ⟨0, t1.2.Q7, (W (s.X8 + 1)), t1.2.d8, t1.2.T7, 0, [], []⟩) (sl (Nat.beq t1.1 2) (k ⟨1, t1.2.Q7, (W (s.X8 + 1)), t1.2.d8, t1.2.T7, t1.2.rc3, t1.2.eh5, t1.2.eh6⟩) z)) z) z) z) (e 1))
noncomputable def z4 {α : Type} (k : l8 → α) (e : Nat → α) (z : α) (p : p9) (s : l8) : α := let t1 := (lp (v9 (⟨s.X8, p.Ta9, s.X8, ((List.length s.d8) - (W (s.X8 + 1)).toNat), (fun k => (fun k => (tP).row (gL tP s.d8 k)) ((W (s.X8 + 1)).toNat + k)), (↑((List.length s.d8) - (W (s.X8 + 1)).toNat) : Int), (gL tP s.Q7 s.X8.toNat).n.x, (gL tP s.Q7 s.X8.toNat).n.y, (gL tP s.Q7 s.X8.toNat).n.z, (gL tP s.Q7 s.X8.toNat).b⟩ : j7)) (⟨1, (rt tP s.Q7), 0, (rt tP s.d8), (rt tP s.Oa1), s.Hc1, s.eh4, s.eh5⟩ : j8)); (sl (decide (s.X8 < p.Ta9)) (sl (inB s.X8 (List.length s.Q7)) (sl (inB (W (s.X8 + 1)) ((List.length s.d8) + 1)) (sl ((cnE tP s.Q7) && ((cnE tP s.d8) && ((cnE tP s.Oa1) && true))) (sl (Nat.beq t1.1 1) (k ⟨0, t1.2.Q7, (W (s.X8 + 1)), t1.2.d8, t1.2.T7, 0, [], []⟩) (sl (Nat.beq t1.1 2) (k ⟨1, t1.2.Q7, (W (s.X8 + 1)), t1.2.d8, t1.2.T7, t1.2.rc3, t1.2.eh5, t1.2.eh6⟩) z)) z) z) z) (e 2))
noncomputable def w6 (p : p9) (s : l8) : Stp l8 := (sel (Nat.beq s.ph 1) (z4 .next .exit .fail p s) (y9 .next .exit .fail p s))
noncomputable def qa4 : Lo p9 l8 := ⟨En ea1, 0, xe3, [1, 1, 1, 0, 1, 4, 4, 1, 4, 4], [1, 9, 10, 11, 47, 49, 50, 51, 52], (.s .p (.s .p (.s (.b (.s .p (.s .p (.b (.u qa3.lsM))))) .p))), [⟨((.s (.o .unk)) :: ((.s (.o (.ptr 0 0 0 0))) :: (ru2 7 ((.s (.c 4 (nL tP))) :: ((.s (.o (.int .i64))) :: ((.s (.o (.int .i64))) :: (ru2 35 ((.s (.o (.lit .i64 0))) :: ((.s (.o .unk)) :: ((.s (.o (.ptr 1 0 0 0))) :: ((.s (.o .nil)) :: ((.s (.o (.ptr 2 0 0 0))) :: ((.s (.o (.ptr 3 0 0 0))) :: (ru2 31 [])))))))))))))), [⟨0, 1, true, (some [[(.c 4 (nL tP))]])⟩, ⟨0, 1, true, (some [[(.c 4 (nL tP))]])⟩, ⟨0, 0, true, (some [[(.o .nil)]])⟩, ⟨0, 0, true, (some [[(.o (.ptr 4 0 0 0))]])⟩, ⟨174, 0, true, (some [])⟩], fun a H => (⟨(toI (slT a 10))⟩, ⟨0, (rL tP (slT a 9)), (toI (slT a 11)), (rL tP (slT (rwT (elT H 0) 0) 0)), (rL tP (slT (rwT (elT H 1) 0) 0)), 0, [], []⟩)⟩, ⟨((.s (.o .unk)) :: ((.s (.o (.ptr 0 0 0 0))) :: (ru2 7 ((.s (.c 4 (nL tP))) :: ((.s (.o (.int .i64))) :: ((.s (.o (.int .i64))) :: (ru2 35 ((.s (.o (.lit .i64 0))) :: ((.s (.o .unk)) :: ((.s (.o (.ptr 1 0 0 0))) :: ((.s (.o .nil)) :: ((.s (.o (.ptr 2 0 0 0))) :: ((.s (.o (.ptr 3 0 0 0))) :: (ru2 31 [])))))))))))))), [⟨0, 1, true, (some [[(.c 4 (nL tP))]])⟩, ⟨0, 1, true, (some [[(.c 4 (nL tP))]])⟩, ⟨0, 0, true, (some [[(.o (.sl 4 0 (some 0) none))]])⟩, ⟨0, 0, true, (some [[(.o (.ptr 5 0 0 0))]])⟩, ⟨54, 4, true, none⟩, ⟨174, 0, true, none⟩], fun a H => (⟨(toI (slT a 10))⟩, ⟨1, (rL tP (slT a 9)), (toI (slT a 11)), (rL tP (slT (rwT (elT H 0) 0) 0)), (rL tP (slT (rwT (elT H 1) 0) 0)), (slN (slT (rwT (elT H 2) 0) 0)), (elT H 4), (elT H 5)⟩)⟩], w6, [(some 0, fun p s => ⟨(.unk :: ((.ptr 0 0 0 0) :: (ra 7 ((eL tP s.Q7) :: ((i p.Ta9) :: ((i s.X8) :: ((b (decide (s.X8 < p.Ta9))) :: (ra 34 ((i 0) :: (.unk :: ((.ptr 1 0 0 0) :: ((.v (.slice none 0 0)) :: ((.ptr 2 0 0 0) :: ((.ptr 3 0 0 0) :: (ra 31 []))))))))))))))), [⟨0, 1, [[(eL tP s.d8)]], true, false, 0⟩, ⟨0, 1, [[(eL tP s.Oa1)]], true, false, 0⟩, ⟨0, 0, [[(.v (.slice none 0 0))]], true, false, 0⟩, ⟨0, 0, [[(.ptr 4 0 0 0)]], true, false, 0⟩, ⟨174, 0, [], true, false, 0⟩]⟩), (some 0, fun p s => ⟨(.unk :: ((.ptr 0 0 0 0) :: (ra 7 ((eL tP s.Q7) :: ((i p.Ta9) :: ((i s.X8) :: ((b (decide (s.X8 < p.Ta9))) :: (ra 34 ((i 0) :: (.unk :: ((.ptr 1 0 0 0) :: ((.v (.slice none 0 0)) :: ((.ptr 2 0 0 0) :: ((.ptr 3 0 0 0) :: (ra 31 []))))))))))))))), [⟨0, 1, [[(eL tP s.d8)]], true, false, 0⟩, ⟨0, 1, [[(eL tP s.Oa1)]], true, false, 0⟩, ⟨0, 0, [[(.sl 4 0 s.Hc1 0)]], true, false, 0⟩, ⟨0, 0, [[(.ptr 5 0 0 0)]], true, false, 0⟩, ⟨54, 4, s.eh4, true, false, 0⟩, ⟨174, 0, s.eh5, true, false, 0⟩]⟩)], xb2⟩
theorem xb3 : qa4.OkM := Lo.okM [qa3.prM] (by kernel_rfl) (.cons xb1 .nil) rfl (.cons (fun a H => by kernel_rfl) (.cons (fun a H => by kernel_rfl) .nil)) fun p s => (.sel (Nat.beq s.ph 1) (.of @z4 (fun F _ _ _ _ _ => by unfold z4; (repeat' apply k9 (f := F)) <;> rfl) (by kernel_rfl)) (.of @y9 (fun F _ _ _ _ _ => by unfold y9; (repeat' apply k9 (f := F)) <;> rfl) (by kernel_rfl)))
noncomputable def W8 (x : List Pln) : Option (b7 × List b8) := let t1 := (lp (w6 (⟨(↑(List.length x) : Int)⟩ : p9)) (⟨0, (rt tP x), 0, (rt tP x), (rt tP x), 0, [], []⟩ : l8)); (sl ((cnE tP x) && ((cnE tP x) && ((cnE tP x) && true))) (sl (Nat.beq t1.1 1) (some ((.v (.slice none 0 0)), [])) (sl (Nat.beq t1.1 2) (some ((.sl 0 0 t1.2.Hc1 0), [⟨54, 4, t1.2.eh4, true, false, 0⟩])) none)) none)
noncomputable def W9 (x : List Pln) : List Pt := K5 (one (r1L tX)) (W8 x)
noncomputable def X0 (x : List Pln) : Bool := okO (one (r1L tX)) (W8 x)
noncomputable def ya2 : Sum := R3 (W7 tP) (fun x => .guard (X0 x) (.ret ((one (r1L tX)).enc (W9 x), [])))
theorem Qa4 : g9 prog G 89 ya2 := za1 (bd b89 Bb2) (one (r1L tX)) (o := W8) fun x => Ge4 (.s .p (.s .p (.s .p (.s (.s .p (.b (.i (.s .p (.b (.u qa4.lsM)))))) .p)))) [qa4.prM] (by kernel_rfl) (.cons xb3 .nil) (by kernel_rfl)
end Go.Ev.Ce
end
section
namespace Go.Ev.Ce
open Go Go.Ev Go.Ev.L Go.Proofs
set_option maxRecDepth 100000
noncomputable def Jb9 : List (Nat × Sum) := []
theorem uc8 : i6 prog G Jb9 := trivial
structure qa5 where
 is0 : Int
 Hd7 : List Int
 is8 : Int
structure K7 where
 is9 : Int
noncomputable def mc9 (p : qa5) (s : K7) : St := ⟨((i p.is0) :: (ra 6 ((eL tI p.Hd7) :: ((i p.is8) :: ((i s.is9) :: (ra 13 [])))))), []⟩
noncomputable def ga8 {α : Type} (k : K7 → α) (e : Nat → α) (z : α) (p : qa5) (s : K7) : α := (sl (decide (s.is9 < p.is8)) (sl (inB s.is9 (List.length p.Hd7)) (sl (decide ((gL tI p.Hd7 s.is9.toNat) < (W (0 - p.is0)))) (e 1) (sl (decide ((gL tI p.Hd7 s.is9.toNat) > p.is0)) (e 1) (k ⟨(W (s.is9 + 1))⟩))) z) (e 2))
noncomputable def la9 (p : qa5) (s : K7) : Stp K7 := ga8 .next .exit .fail p s
noncomputable def Va7 : Lo qa5 K7 := ⟨En Jb9, 0, Ee6, [1, 0, 1, 4, 4], [0, 7, 8, 9], .p, [⟨((.s (.o (.int .i64))) :: (ru2 6 ((.s (.c 1 (nL tI))) :: ((.s (.o (.int .i64))) :: ((.s (.o (.int .i64))) :: (ru2 13 [])))))), [], fun a H => (⟨(toI (slT a 0)), (rL tI (slT a 7)), (toI (slT a 8))⟩, ⟨(toI (slT a 9))⟩)⟩], la9, [(none, fun p s => ⟨[(b false)], []⟩), (some 0, fun p s => ⟨((i p.is0) :: (ra 6 ((eL tI p.Hd7) :: ((i p.is8) :: ((i s.is9) :: ((b (decide (s.is9 < p.is8))) :: (ra 12 []))))))), []⟩)], mc9⟩
theorem nc0 : Va7.Ok := Lo.ok [] (by kernel_rfl) .nil rfl (.cons (fun a H => by kernel_rfl) .nil) fun p s => (.of @ga8 (fun F _ _ _ _ _ => by unfold ga8; (repeat' apply k9 (f := F)) <;> rfl) (by kernel_rfl))
noncomputable def Ba0 (x : Int) (y : List Int) : Option (b7 × List b8) := let t1 := (lp (la9 (⟨x, (rt tI y), (↑(List.length y) : Int)⟩ : qa5)) (⟨0⟩ : K7)); (sl ((cnE tI y) && true) (sl (Nat.beq t1.1 1) (some ((b false), [])) (sl (Nat.beq t1.1 2) (some ((b true), [])) none)) none)
noncomputable def qa6 (x : Int) (y : List Int) : Bool := K5 (one r1B) (Ba0 x y)
noncomputable def qa7 (x : Int) (y : List Int) : Bool := okO (one r1B) (Ba0 x y)
noncomputable def nb2 : Sum := oa1 cI (W7 tI) (fun x y => .guard (qa7 x y) (.ret ((one r1B).enc (qa6 x y), [])))
theorem Kb0 : g9 prog G 164 nb2 := gb5 (bd ff5 uc8) (one r1B) (o := Ba0) fun x y => sa6 (.s .p (.s (.s .p (.b (.u Va7.ls))) .p)) [Va7.pr] (by kernel_rfl) (.cons nc0 .nil) (by kernel_rfl)
noncomputable def nc1 : List (Nat × Sum) := []
theorem ec5 : i6 prog G nc1 := trivial
noncomputable def Ea4 (x : Int) : Int := (if (W (0 - x)) > x then (W (0 - x)) else x)
noncomputable def Bb3 : Sum := R3 cI (fun x => .ret ((one r1I).enc (Ea4 x), []))
theorem nc2 : g9 prog G 214 Bb3 := Eb5 (bd if1 ec5) fun x => r9 (by kernel_rfl)
noncomputable def Va8 : List (Nat × Sum) := [(214, Bb3)]
theorem nc3 : i6 prog G Va8 := ⟨nc2, trivial⟩
structure ba1 where
 Fa9 : List Int
 is7 : Int
 is8 : Int
structure M2 where
 is3 : Int
 is5 : Int
noncomputable def ec6 (p : ba1) (s : M2) : St := ⟨(ra 3 ((i s.is3) :: (.unk :: ((i s.is5) :: ((eL tI p.Fa9) :: ((i p.is7) :: ((i p.is8) :: (ra 15 [])))))))), []⟩
noncomputable def da1 {α : Type} (k : M2 → α) (e : Nat → α) (z : α) (p : ba1) (s : M2) : α := (sl (decide (s.is5 > 0)) (sl (s.is5 == 0) z (k ⟨s.is5, (Int.tmod s.is3 s.is5)⟩)) (e 1))
noncomputable def X6 (p : ba1) (s : M2) : Stp M2 := da1 .next .exit .fail p s
noncomputable def Qa5 : Lo ba1 M2 := ⟨En Va8, 0, je9, [1, 1, 0, 1, 4, 4, 1, 1, 0, 4, 1, 1, 1, 4, 4], [3, 5, 6, 7, 8], .p, [⟨(ru2 3 ((.s (.o (.int .i64))) :: ((.s (.o .unk)) :: ((.s (.o (.int .i64))) :: ((.s (.c 1 (nL tI))) :: ((.s (.o (.int .i64))) :: ((.s (.o (.int .i64))) :: (ru2 15 [])))))))), [], fun a H => (⟨(rL tI (slT a 6)), (toI (slT a 7)), (toI (slT a 8))⟩, ⟨(toI (slT a 3)), (toI (slT a 5))⟩)⟩], X6, [(some 2, fun p s => ⟨(ra 3 ((i s.is3) :: (.unk :: ((i s.is5) :: ((eL tI p.Fa9) :: ((i p.is7) :: ((i p.is8) :: (ra 7 ((i s.is5) :: ((b (decide (s.is5 > 0))) :: (ra 6 []))))))))))), []⟩)], ec6⟩
theorem ec7 : Qa5.Ok := Lo.ok [] (by kernel_rfl) .nil rfl (.cons (fun a H => by kernel_rfl) .nil) fun p s => (.of @da1 (fun F _ _ _ _ _ => by unfold da1; (repeat' apply k9 (f := F)) <;> rfl) (by kernel_rfl))
structure ma0 where
 is7 : Int
structure H6 where
 is3 : Int
 Fa9 : List Int
 is8 : Int
noncomputable def ec8 (p : ma0) (s : H6) : St := ⟨(ra 3 ((i s.is3) :: (.unk :: (.unk :: ((eL tI s.Fa9) :: ((i p.is7) :: ((i s.is8) :: (ra 15 [])))))))), []⟩
noncomputable def da2 {α : Type} (k : H6 → α) (e : Nat → α) (z : α) (p : ma0) (s : H6) : α := let t1 := (Ea4 (gL tI s.Fa9 s.is8.toNat)); let t2 := (lp (X6 (⟨(rt tI s.Fa9), p.is7, s.is8⟩ : ba1)) (⟨s.is3, t1⟩ : M2)); (sl (decide (s.is8 < p.is7)) (sl (inB s.is8 (List.length s.Fa9)) (sl ((gL tI s.Fa9 s.is8.toNat) == (-9223372036854775808)) (e 1) (sl ((cnE tI s.Fa9) && true) (sl (Nat.beq t2.1 1) (k ⟨t2.2.is3, (rt tI s.Fa9), (W (s.is8 + 1))⟩) z) z)) z) (e 2))
noncomputable def ga9 (p : ma0) (s : H6) : Stp H6 := da2 .next .exit .fail p s
noncomputable def Qa6 : Lo ma0 H6 := ⟨En Va8, 0, je9, [1, 1, 0, 1, 4, 4], [3, 6, 7, 8], (.s .p (.s .p (.s (.b (.s .p (.s .p (.s .p (.b (.u Qa5.ls)))))) .p))), [⟨(ru2 3 ((.s (.o (.int .i64))) :: ((.s (.o .unk)) :: ((.s (.o .unk)) :: ((.s (.c 1 (nL tI))) :: ((.s (.o (.int .i64))) :: ((.s (.o (.int .i64))) :: (ru2 15 [])))))))), [], fun a H => (⟨(toI (slT a 7))⟩, ⟨(toI (slT a 3)), (rL tI (slT a 6)), (toI (slT a 8))⟩)⟩], ga9, [(none, fun p s => ⟨[(i 0)], []⟩), (some 0, fun p s => ⟨(ra 3 ((i s.is3) :: (.unk :: (.unk :: ((eL tI s.Fa9) :: ((i p.is7) :: ((i s.is8) :: ((b (decide (s.is8 < p.is7))) :: (ra 14 []))))))))), []⟩)], ec8⟩
theorem ec9 : Qa6.Ok := Lo.ok [Qa5.pr] (by kernel_rfl) (.cons ec7 .nil) rfl (.cons (fun a H => by kernel_rfl) .nil) fun p s => (.of @da2 (fun F _ _ _ _ _ => by unfold da2; (repeat' apply k9 (f := F)) <;> rfl) (by kernel_rfl))
noncomputable def va4 (x : List Int) : Option (b7 × List b8) := let t1 := (lp (ga9 (⟨(↑(List.length x) : Int)⟩ : ma0)) (⟨0, (rt tI x), 0⟩ : H6)); (sl ((cnE tI x) && true) (sl (Nat.beq t1.1 1) (some ((i 0), [])) (sl (Nat.beq t1.1 2) (some ((i t1.2.is3), [])) none)) none)
noncomputable def Ka3 (x : List Int) : Int := K5 (one r1I) (va4 x)
noncomputable def Ka4 (x : List Int) : Bool := okO (one r1I) (va4 x)
noncomputable def Kb1 : Sum := R3 (W7 tI) (fun x => .guard (Ka4 x) (.ret ((one r1I).enc (Ka3 x), [])))
theorem uc9 : g9 prog G 165 Kb1 := za1 (bd ff6 nc3) (one r1I) (o := va4) fun x => sa6 (.s .p (.s .p (.s (.s .p (.b (.u Qa6.ls))) .p))) [Qa6.pr] (by kernel_rfl) (.cons ec9 .nil) (by kernel_rfl)
noncomputable def Oc2 : List (Nat × Sum) := [(164, nb2), (165, Kb1)]
theorem Cc6 : i6 prog G Oc2 := ⟨Kb0, uc9, trivial⟩
noncomputable def Ha8 (x : Pln) : Option (b7 × List b8) := let t1 := (qa6 4608 [x.n.x, x.n.y, x.n.z]); let t2 := (Ka3 [x.n.x, x.n.y, x.n.z]); let t3 := (qa6 2097152 [x.b]); (sl (qa7 4608 [x.n.x, x.n.y, x.n.z]) (sl t1 (sl (Ka4 [x.n.x, x.n.y, x.n.z]) (sl (t2 == 1) (sl (qa7 2097152 [x.b]) (some ((b t3), [])) none) (some ((b false), []))) none) (some ((b false), []))) none)
noncomputable def Xa5 (x : Pln) : Bool := K5 (one r1B) (Ha8 x)
noncomputable def Xa6 (x : Pln) : Bool := okO (one r1B) (Ha8 x)
noncomputable def bc1 : Sum := R3 (R4 tP) (fun x => .guard (Xa6 x) (.ret ((one r1B).enc (Xa5 x), [])))
theorem Oc3 : g9 prog G 85 bc1 := za1 (bd b85 Cc6) (one r1B) (o := Ha8) fun x => r9 (by kernel_rfl)
noncomputable def Cc7 : List (Nat × Sum) := [(85, bc1)]
theorem vc0 : i6 prog G Cc7 := ⟨Oc3, trivial⟩
noncomputable def Ba1 (x : Pln) : Option (b7 × List b8) := let t1 := (Xa5 x); (sl (Xa6 x) (some ((b (!t1)), [])) none)
noncomputable def Qa7 (x : Pln) : Bool := K5 (one r1B) (Ba1 x)
noncomputable def Qa8 (x : Pln) : Bool := okO (one r1B) (Ba1 x)
noncomputable def Qb8 : Sum := R3 (R4 tP) (fun x => .guard (Qa8 x) (.ret ((one r1B).enc (Qa7 x), [])))
theorem Cc8 : g9 prog G 84 Qb8 := za1 (bd b84 vc0) (one r1B) (o := Ba1) fun x => r9 (by kernel_rfl)
structure U5 where
 c7 : List Pln
noncomputable def Ba2 : List (Nat × Sum) := [(84, Qb8)]
theorem hb5 : i6 prog G Ba2 := ⟨Cc8, trivial⟩
structure H7 where
 c7 : List Pln
 is7 : Int
structure o2 where
 is8 : Int
noncomputable def db4 (p : H7) (s : o2) : St := ⟨((eL tP p.c7) :: ((.fn 84 []) :: (ra 5 ((i p.is7) :: ((i s.is8) :: (ra 10 [])))))), []⟩
noncomputable def C6 {α : Type} (k : o2 → α) (e : Nat → α) (z : α) (p : H7) (s : o2) : α := let t1 := (Qa7 (gL tP p.c7 s.is8.toNat)); (sl (decide (s.is8 < p.is7)) (sl (inB s.is8 (List.length p.c7)) (sl (Qa8 (gL tP p.c7 s.is8.toNat)) (sl t1 (e 1) (k ⟨(W (s.is8 + 1))⟩)) z) z) (e 2))
noncomputable def E8 (p : H7) (s : o2) : Stp o2 := C6 .next .exit .fail p s
noncomputable def ea2 : Lo H7 o2 := ⟨En Ba2, 0, Ad4, [1, 0, 1, 4, 4], [0, 1, 7, 8], .p, [⟨((.s (.c 4 (nL tP))) :: ((.s (.o (.fn 84))) :: (ru2 5 ((.s (.o (.int .i64))) :: ((.s (.o (.int .i64))) :: (ru2 10 [])))))), [], fun a H => (⟨(rL tP (slT a 0)), (toI (slT a 7))⟩, ⟨(toI (slT a 8))⟩)⟩], E8, [(none, fun p s => ⟨[(i s.is8)], []⟩), (some 0, fun p s => ⟨((eL tP p.c7) :: ((.fn 84 []) :: (ra 5 ((i p.is7) :: ((i s.is8) :: ((b (decide (s.is8 < p.is7))) :: (ra 9 []))))))), []⟩)], db4⟩
theorem db5 : ea2.Ok := Lo.ok [] (by kernel_rfl) .nil rfl (.cons (fun a H => by kernel_rfl) .nil) fun p s => (.of @C6 (fun F _ _ _ _ _ => by unfold C6; (repeat' apply k9 (f := F)) <;> rfl) (by kernel_rfl))
structure U9 where
 alt : Nat
 is0 : Int
noncomputable def D3 {α : Type} (kk : U9 → α) (x : U5) : α := let t1 := (lp (E8 (⟨(rt tP x.c7), (↑(List.length x.c7) : Int)⟩ : H7)) (⟨0⟩ : o2)); (sl ((cnE tP x.c7) && true) (sl (Nat.beq t1.1 1) (kk ⟨1, t1.2.is8⟩) (sl (Nat.beq t1.1 2) (kk ⟨1, (-1)⟩) (kk ⟨0, 0⟩))) (kk ⟨0, 0⟩))
noncomputable def ja7 (x : U5) : U9 := D3 (fun r => r) x
noncomputable def ha0 (x : U5) (r : U9) : DT (b7 × List b8) := (.ite (Nat.beq r.alt 1) (.ret ((i r.is0), [])) .fail)
theorem rb8 {α β : Type} (F : α → β) (kk : U9 → α) (x : U5) : F (D3 kk x) = D3 (fun r => F (kk r)) x := by unfold D3; (repeat' apply k9 (f := F)) <;> rfl
noncomputable def Fa2 : Sum := Pa4 ⟨[(.s (.c 4 (nL tP))), (.s (.o (.fn 84)))], [], fun a H => (⟨(rL tP (slT a 0))⟩, ())⟩ (fun x => ha0 x (ja7 x))
theorem nb3 : g9 prog G 163 Fa2 := J5 (enc := fun x => ⟨[(eL tP x.c7), (.fn 84 [])], []⟩) (fun a H => by kernel_rfl) (bd xe5 hb5) fun x => sa6 (.s .p (.s (.s .p (.b (.u ea2.ls))) .p)) [ea2.pr] (by kernel_rfl) (.cons db5 .nil) (Eq.trans (b := D3 (fun r => (ha0 x r).run) x) (by kernel_rfl) (rb8 (fun r => (ha0 x r).run) (fun r => r) x).symm)
structure N2 where
 c7 : List Pln
noncomputable def ab0 : List (Nat × Sum) := [(163, Fa2)]
theorem Va9 : i6 prog G ab0 := ⟨nb3, trivial⟩
structure N3 where
 alt : Nat
 bs0 : Bool
noncomputable def z9 {α : Type} (kk : N3 → α) (x : N2) : α := let t1 := (ja7 ⟨(rt tP x.c7)⟩); (sl ((cnE tP x.c7) && true) (sl (Nat.beq t1.alt 1) (kk ⟨1, (decide (t1.is0 ≥ 0))⟩) (kk ⟨0, false⟩)) (kk ⟨0, false⟩))
noncomputable def ba8 (x : N2) : N3 := z9 (fun r => r) x
noncomputable def Z8 (x : N2) (r : N3) : DT (b7 × List b8) := (.ite (Nat.beq r.alt 1) (.ret ((b r.bs0), [])) .fail)
theorem db6 {α β : Type} (F : α → β) (kk : N3 → α) (x : N2) : F (z9 kk x) = z9 (fun r => F (kk r)) x := by unfold z9; (repeat' apply k9 (f := F)) <;> rfl
noncomputable def va5 : Sum := Pa4 ⟨[(.s (.c 4 (nL tP))), (.s (.o (.fn 84)))], [], fun a H => (⟨(rL tP (slT a 0))⟩, ())⟩ (fun x => Z8 x (ba8 x))
theorem ab1 : g9 prog G 83 va5 := J5 (enc := fun x => ⟨[(eL tP x.c7), (.fn 84 [])], []⟩) (fun a H => by kernel_rfl) (bd b83 Va9) fun x => r9 (Eq.trans (b := z9 (fun r => (Z8 x r).run) x) (by kernel_rfl) (db6 (fun r => (Z8 x r).run) (fun r => r) x).symm)
noncomputable def Zc0 : List (Nat × Sum) := [(83, va5)]
theorem Oc4 : i6 prog G Zc0 := ⟨ab1, trivial⟩
noncomputable def Qa9 (x : List Pln) : Option (b7 × List b8) := let t1 := (ba8 ⟨(rt tP x)⟩); (sl (decide ((↑(List.length x) : Int) > 48)) (some ((i 2), [])) (sl ((cnE tP x) && true) (sl (Nat.beq t1.alt 1) (sl t1.bs0 (some ((i 12), [])) (some ((i 0), []))) none) none))
noncomputable def Ra0 (x : List Pln) : Int := K5 (one r1I) (Qa9 x)
noncomputable def Ra1 (x : List Pln) : Bool := okO (one r1I) (Qa9 x)
noncomputable def Gb6 : Sum := R3 (W7 tP) (fun x => .guard (Ra1 x) (.ret ((one r1I).enc (Ra0 x), [])))
theorem bc2 : g9 prog G 15 Gb6 := za1 (bd b15 Oc4) (one r1I) (o := Qa9) fun x => r9 (by kernel_rfl)
noncomputable def Cc9 : List (Nat × Sum) := [(15, Gb6)]
theorem vc1 : i6 prog G Cc9 := ⟨bc2, trivial⟩
noncomputable def Ba3 (x : List Pln) : Option (b7 × List b8) := let t1 := (Ra0 (rt tP x)); (sl (okE tP x) (sl (Ra1 (rt tP x)) (some ((b (t1 != 0)), [])) none) none)
noncomputable def Ra2 (x : List Pln) : Bool := K5 (one r1B) (Ba3 x)
noncomputable def Ra3 (x : List Pln) : Bool := okO (one r1B) (Ba3 x)
noncomputable def Qb9 : Sum := R3 (W7 tP) (fun x => .guard (Ra3 x) (.ret ((one r1B).enc (Ra2 x), [])))
theorem Dc0 : g9 prog G 168 Qb9 := za1 (bd ff9 vc1) (one r1B) (o := Ba3) fun x => r9 (by kernel_rfl)
end Go.Ev.Ce
end
namespace Go.Proofs
open Go.Shelf
shelf_lay_g Lays8.n4 Nm8 4 at Tryz 216 as Ce.growP
end Go.Proofs
namespace Go.Ev.Ce
open Go Go.Ev Go.Proofs
noncomputable def pd6 : List b7 := [i 0, i 0, i 0, i 0]
noncomputable def Ga1 : Sum := fun args blks => match args, blks with
 | [.v (.slice none 0 0), .v (.int .i64 n)], [] => .ite (n == 0) (.ret (.v (.slice none 0 0), []))
   (.guard (Bool.and (decide (0 < n)) (Nat.ble (n.toNat * 32) room)) (.ret (.sl 0 0 0 0, [⟨50, 4, List.replicate n.toNat pd6, true, false, 0⟩])))
 | _, _ => .fail
theorem z50 : zeT Tryz.prog 50 = some pd6 := by kernel_rfl
theorem s50 : szT Tryz.prog 50 = 4 := by kernel_rfl
theorem y50 : byT Tryz.prog 50 = 32 := by kernel_rfl
theorem t25 : Ce.growP_ren.t 25 = 50 := by kernel_rfl
theorem f4 : Ce.growP_ren.f 4 = 216 := by kernel_rfl
set_option maxRecDepth 100000 in
theorem Rb0 : g9 prog G 216 Ga1 := by
 intro args blks r out he W ρ F w args' hH hlen hargs hG
 refine ⟨⟨_, Tryz.func216, by kernel_rfl, of_decide_eq_true (by kernel_rfl)⟩, ?_⟩
 unfold Ga1 at he
 split at he
 case h_2 => cases he
 rename_i n
 match args', hlen with
 | [v0, v1], _ =>
 have e0 := da0 (hargs 0 _ _ rfl rfl)
 have e1 := da0 (hargs 1 _ _ rfl rfl)
 subst e0 e1
 rcases DT.run_ite_some he with ⟨h0, he⟩ | ⟨h0, he⟩
 ·have h0 : n = 0 := by simpa using h0
  subst h0
  injection he with he; injection he with q1 q2; subst q1 q2
  have := Any8.slices_Grow_room Ce.growP none 0 0 0 w (Nat.le_refl _) (by omega) (by omega) (by omega)
  rw [f4] at this
  refine this.mono fun e w' ⟨h1, h2⟩ => ?_
  subst h1 h2
  exact ⟨_, rfl, ρ, F, .refl, hH, .ofv _⟩
 ·obtain ⟨hg, he⟩ := DT.run_guard_some he
  rw [Bool.and_eq_true, decide_eq_true_eq] at hg
  obtain ⟨hpos, hroom⟩ := hg
  have hroom := Nat.le_of_ble_eq_true hroom
  unfold room at hroom
  obtain ⟨m, rfl⟩ := Int.eq_ofNat_of_zero_le (Int.le_of_lt hpos)
  have hm : 0 < m := by omega
  have he : some (b7.sl 0 0 0 0, [(⟨50, 4, List.replicate m pd6, true, false, 0⟩ : b8)]) = some (r, out) := he
  injection he with he; injection he with q1 q2; subst q1 q2
  obtain ⟨ti, zv, hi, hzz, hzr, hone⟩ := Ua9 (E := En []) z50
  have hi : Tryz.prog.info? 50 = some ti := hi
  have hts : ti.size = 4 := by have := s50; simp only [szT, hi] at this; exact this
  have hby : ti.bytes = 32 := by have := y50; simp only [byT, hi] at this; exact this
  have hzs : zv.cells.size = 4 := by
   have := congrArg List.length hzr
   simpa [pd6] using this.symm
  have hroom' : m * 32 ≤ 140737488355328 := hroom
  have := Any8.slices_Grow_grow Ce.growP ti zv (by rw [t25]; exact hi) hzz (by omega) none 0 0 m [] w (Nat.le_refl _) (by omega) (by rw [hby]; omega) (by omega) (by simp) (fun _ => rfl) (fun a ha => by cases ha)
  rw [f4, t25] at this
  refine this.mono fun e w' ⟨h1, h2⟩ => ?_
  have hcap := grownCap_ge w (0 + m) 0 50
  have hcap2 := grownCap_le_maxLen w (0 + m) 0 50 (by unfold maxLen; omega)
  subst h1
  generalize grownCap w (0 + m) 0 50 = G' at *
  have hsz : ∀ q, (Builtin.zeroCells zv.cells q).size = q * 4 := fun q => by simp [Builtin.zeroCells, hzs]
  have hcc : (#[] ++ Builtin.zeroCells zv.cells (0 + m - 0) ++ Builtin.zeroCells zv.cells (G' - (0 + m))).size = G' * 4 := by
   rw [Array.size_append, Array.size_append, hsz, hsz]
   simp
   omega
  have hobj : w'.heap[w.heap.size]? = some (.cells (#[] ++ Builtin.zeroCells zv.cells (0 + m - 0) ++ Builtin.zeroCells zv.cells (G' - (0 + m))) 50 (0, 0)) := by
   rw [h2]
   exact World.alloc_heap_new w.drew _
  have hold : ∀ k, k < w.heap.size → w'.heap[k]? = w.heap[k]? := fun k hk => by
   rw [h2]
   simp only [World.alloc, Array.getElem?_push, World.drew]
   rw [if_neg (by omega)]
  have hws : w'.heap.size = w.heap.size + 1 := by rw [h2]; exact Array.size_push ..
  obtain ⟨h6, h7⟩ := hH.newAt (w' := w') (by rw [h2]; rfl) (by rw [h2]; rfl) (by rw [h2]; rfl) (by rw [h2]; exact Nat.le_succ _) (by omega) hold w.heap.size (Nat.le_refl _) 50 4 (List.replicate m pd6) _ 50 hobj
   (fun j r hr => by rw [List.getElem?_replicate] at hr; split at hr <;> cases hr; rfl) (by rw [List.length_replicate, hcc]; omega)
   (fun j r c x hr hx => by
    have hjm : j < m := by
     have := (List.getElem?_eq_some_iff.1 hr).1
     simpa using this
    rw [List.getElem?_replicate, if_pos hjm] at hr
    injection hr with hr
    subst hr
    have hc4 : c < 4 := (List.getElem?_eq_some_iff.1 hx).1
    rw [hzr, List.getElem?_map] at hx
    have hcz : c < zv.cells.size := by omega
    have hq : zv.cells.toList[c]? = some zv.cells[c] := by simp [hcz]
    rw [hq] at hx
    injection hx with hx
    subst hx
    refine ⟨zv.cells[c], ?_, .v _ (hone _ (by simp))⟩
    have hlt : j * 4 + c < m * 4 := by omega
    rw [Array.append_assoc, Array.empty_append, Array.getElem?_append_left (by rw [hsz]; omega)]
    have hm4 : (j * 4 + c) % 4 = c := by omega
    simp only [Builtin.zeroCells, hzs]
    rw [Array.getElem?_map, Array.getElem?_range]
    rw [if_pos (by omega)]
    simp [hm4, hcz])
   (fun _ => rfl)
  refine ⟨_, rfl, _, F, h6, h7, .val (.cell ?_)⟩
  refine .sl 0 0 0 0 _ _ { et := 50, es := 4, elems := List.replicate m pd6, own := true, dead := false, g := 0 } rfl rfl (Nat.le_refl _) (Nat.zero_le _) rfl hcap2 fun _ => ⟨.inr ?_, ?_, by simp⟩
  ·simp [ρnew]
  ·simp only [ρnew, List.length_nil, if_true]
   rw [hcc, Nat.zero_add]
end Go.Ev.Ce
