/- Own work: a part of the proof. -/
import Derived.Test.YtlccibobknidjaaGreatEvBd
import Derived.Test.YtlccibobknidjaaGreatChecked
import Derived.Test.YtlccibobknidjaaGreatEvCePf
import Derived.KernelRfl
import Derived.Test.YtlccibobknidjaaGreatEvSp7
import Derived.Test.YtlccibobknidjaaGreatEvOps
import Derived.Shelf.Spec.SlicesGrow
set_option linter.unusedVariables false
set_option linter.unusedSimpArgs false
set_option linter.unnecessarySimpa false
set_option linter.unusedSectionVars false
section
namespace Go.Ev.Ce
open Go Go.Ev Go.Proofs
set_option maxRecDepth 1000000
theorem mx : (Tryz.prog).follows .mixedOrders = true := Checked.mixed Tryz.checked
theorem b3 : r6 Tryz.prog 3 fun E => l4 E pf3 := u9 mx Tryz.func3 (by kernel_rfl) (f7 (by kernel_rfl))
theorem b4 : r6 Tryz.prog 4 fun E => l4 E pf4 := u9 mx Tryz.func4 (by kernel_rfl) (f7 (by kernel_rfl))
theorem b5 : r6 Tryz.prog 5 fun E => l4 E pf5 := u9 mx Tryz.func5 (by kernel_rfl) (f7 (by kernel_rfl))
theorem b6 : r6 Tryz.prog 6 fun E => l4 E pf6 := u9 mx Tryz.func6 (by kernel_rfl) (f7 (by kernel_rfl))
theorem b13 : r6 Tryz.prog 13 fun E => l4 E Fe2 := u9 mx Tryz.func13 (by kernel_rfl) (f7 (by kernel_rfl))
theorem b15 : r6 Tryz.prog 15 fun E => l4 E Fe3 := u9 mx Tryz.func15 (by kernel_rfl) (f7 (by kernel_rfl))
theorem b16 : r6 Tryz.prog 16 fun E => l4 E xe3 := u9 mx Tryz.func16 (by kernel_rfl) (f7 (by kernel_rfl))
theorem b17 : r6 Tryz.prog 17 fun E => l4 E xe4 := u9 mx Tryz.func17 (by kernel_rfl) (f7 (by kernel_rfl))
theorem b18 : r6 Tryz.prog 18 fun E => l4 E Fe4 := u9 mx Tryz.func18 (by kernel_rfl) (f7 (by kernel_rfl))
theorem b20 : r6 Tryz.prog 20 fun E => l4 E Fe5 := u9 mx Tryz.func20 (by kernel_rfl) (f7 (by kernel_rfl))
theorem b21 : r6 Tryz.prog 21 fun E => l4 E Fe6 := u9 mx Tryz.func21 (by kernel_rfl) (f7 (by kernel_rfl))
theorem b22 : r6 Tryz.prog 22 fun E => l4 E xe5 := u9 mx Tryz.func22 (by kernel_rfl) (f7 (by kernel_rfl))
theorem b25 : r6 Tryz.prog 25 fun E => l4 E Fe7 := u9 mx Tryz.func25 (by kernel_rfl) (f7 (by kernel_rfl))
theorem b26 : r6 Tryz.prog 26 fun E => l4 E xe6 := u9 mx Tryz.func26 (by kernel_rfl) (f7 (by kernel_rfl))
theorem b28 : r6 Tryz.prog 28 fun E => l4 E Fe8 := u9 mx Tryz.func28 (by kernel_rfl) (f7 (by kernel_rfl))
theorem b30 : r6 Tryz.prog 30 fun E => l4 E Fe9 := u9 mx Tryz.func30 (by kernel_rfl) (f7 (by kernel_rfl))
theorem b31 : r6 Tryz.prog 31 fun E => l4 E Ge0 := u9 mx Tryz.func31 (by kernel_rfl) (f7 (by kernel_rfl))
theorem b33 : r6 Tryz.prog 33 fun E => l4 E Ge1 := u9 mx Tryz.func33 (by kernel_rfl) (f7 (by kernel_rfl))
theorem b35 : r6 Tryz.prog 35 fun E => l4 E Ge2 := u9 mx Tryz.func35 (by kernel_rfl) (f7 (by kernel_rfl))
theorem b36 : r6 Tryz.prog 36 fun E => l4 E Ge3 := u9 mx Tryz.func36 (by kernel_rfl) (f7 (by kernel_rfl))
theorem b37 : r6 Tryz.prog 37 fun E => l4 E Ge4 := u9 mx Tryz.func37 (by kernel_rfl) (f7 (by kernel_rfl))
theorem b46 : r6 Tryz.prog 46 fun E => l4 E xe7 := u9 mx Tryz.func46 (by kernel_rfl) (f7 (by kernel_rfl))
theorem b47 : r6 Tryz.prog 47 fun E => l4 E Ge5 := u9 mx Tryz.func47 (by kernel_rfl) (f7 (by kernel_rfl))
theorem b54 : r6 Tryz.prog 54 fun E => l4 E Ge6 := u9 mx Tryz.func54 (by kernel_rfl) (f7 (by kernel_rfl))
theorem b81 : r6 Tryz.prog 81 fun E => l4 E Ge7 := u9 mx Tryz.func81 (by kernel_rfl) (f7 (by kernel_rfl))
theorem b83 : r6 Tryz.prog 83 fun E => l4 E Ge8 := u9 mx Tryz.func83 (by kernel_rfl) (f7 (by kernel_rfl))
theorem b84 : r6 Tryz.prog 84 fun E => l4 E Ge9 := u9 mx Tryz.func84 (by kernel_rfl) (f7 (by kernel_rfl))
theorem b85 : r6 Tryz.prog 85 fun E => l4 E He0 := u9 mx Tryz.func85 (by kernel_rfl) (f7 (by kernel_rfl))
theorem b86 : r6 Tryz.prog 86 fun E => l4 E He1 := u9 mx Tryz.func86 (by kernel_rfl) (f7 (by kernel_rfl))
theorem b87 : r6 Tryz.prog 87 fun E => l4 E He2 := u9 mx Tryz.func87 (by kernel_rfl) (f7 (by kernel_rfl))
theorem b88 : r6 Tryz.prog 88 fun E => l4 E He3 := u9 mx Tryz.func88 (by kernel_rfl) (f7 (by kernel_rfl))
theorem b90 : r6 Tryz.prog 90 fun E => l4 E be8 := u9 mx Tryz.func90 (by kernel_rfl) (f7 (by kernel_rfl))
theorem b91 : r6 Tryz.prog 91 fun E => l4 E He4 := u9 mx Tryz.func91 (by kernel_rfl) (f7 (by kernel_rfl))
theorem b92 : r6 Tryz.prog 92 fun E => l4 E He5 := u9 mx Tryz.func92 (by kernel_rfl) (f7 (by kernel_rfl))
theorem b93 : r6 Tryz.prog 93 fun E => l4 E pe4 := u9 mx Tryz.func93 (by kernel_rfl) (f7 (by kernel_rfl))
theorem b94 : r6 Tryz.prog 94 fun E => l4 E He6 := u9 mx Tryz.func94 (by kernel_rfl) (f7 (by kernel_rfl))
theorem b95 : r6 Tryz.prog 95 fun E => l4 E He7 := u9 mx Tryz.func95 (by kernel_rfl) (f7 (by kernel_rfl))
theorem b97 : r6 Tryz.prog 97 fun E => l4 E He8 := u9 mx Tryz.func97 (by kernel_rfl) (f7 (by kernel_rfl))
theorem b98 : r6 Tryz.prog 98 fun E => l4 E He9 := u9 mx Tryz.func98 (by kernel_rfl) (f7 (by kernel_rfl))
theorem b99 : r6 Tryz.prog 99 fun E => l4 E xe8 := u9 mx Tryz.func99 (by kernel_rfl) (f7 (by kernel_rfl))
theorem Ie0 : r6 Tryz.prog 100 fun E => l4 E xe9 := u9 mx Tryz.func100 (by kernel_rfl) (f7 (by kernel_rfl))
theorem Ie1 : r6 Tryz.prog 101 fun E => l4 E je0 := u9 mx Tryz.func101 (by kernel_rfl) (f7 (by kernel_rfl))
theorem Ie2 : r6 Tryz.prog 102 fun E => l4 E ye0 := u9 mx Tryz.func102 (by kernel_rfl) (f7 (by kernel_rfl))
theorem Ie3 : r6 Tryz.prog 104 fun E => l4 E ye1 := u9 mx Tryz.func104 (by kernel_rfl) (f7 (by kernel_rfl))
theorem Ie4 : r6 Tryz.prog 105 fun E => l4 E Od9 := u9 mx Tryz.func105 (by kernel_rfl) (f7 (by kernel_rfl))
theorem Ie5 : r6 Tryz.prog 107 fun E => l4 E ye2 := u9 mx Tryz.func107 (by kernel_rfl) (f7 (by kernel_rfl))
theorem Ie6 : r6 Tryz.prog 108 fun E => l4 E ye3 := u9 mx Tryz.func108 (by kernel_rfl) (f7 (by kernel_rfl))
theorem Ie7 : r6 Tryz.prog 109 fun E => l4 E ye4 := u9 mx Tryz.func109 (by kernel_rfl) (f7 (by kernel_rfl))
theorem Ie8 : r6 Tryz.prog 110 fun E => l4 E je1 := u9 mx Tryz.func110 (by kernel_rfl) (f7 (by kernel_rfl))
theorem Be0 : r6 Tryz.prog 111 fun E => l4 E ye5 := u9 mx Tryz.func111 (by kernel_rfl) (f7 (by kernel_rfl))
theorem Ie9 : r6 Tryz.prog 112 fun E => l4 E xd6 := u9 mx Tryz.func112 (by kernel_rfl) (f7 (by kernel_rfl))
theorem Be1 : r6 Tryz.prog 113 fun E => l4 E ye6 := u9 mx Tryz.func113 (by kernel_rfl) (f7 (by kernel_rfl))
theorem Je0 : r6 Tryz.prog 114 fun E => l4 E ye7 := u9 mx Tryz.func114 (by kernel_rfl) (f7 (by kernel_rfl))
theorem Je1 : r6 Tryz.prog 115 fun E => l4 E ye8 := u9 mx Tryz.func115 (by kernel_rfl) (f7 (by kernel_rfl))
theorem Je2 : r6 Tryz.prog 116 fun E => l4 E ye9 := u9 mx Tryz.func116 (by kernel_rfl) (f7 (by kernel_rfl))
theorem Je3 : r6 Tryz.prog 119 fun E => l4 E ze0 := u9 mx Tryz.func119 (by kernel_rfl) (f7 (by kernel_rfl))
theorem Je4 : r6 Tryz.prog 124 fun E => l4 E ed3 := u9 mx Tryz.func124 (by kernel_rfl) (f7 (by kernel_rfl))
theorem Je5 : r6 Tryz.prog 126 fun E => l4 E ze1 := u9 mx Tryz.func126 (by kernel_rfl) (f7 (by kernel_rfl))
theorem Je6 : r6 Tryz.prog 129 fun E => l4 E ze2 := u9 mx Tryz.func129 (by kernel_rfl) (f7 (by kernel_rfl))
theorem Je7 : r6 Tryz.prog 130 fun E => l4 E ze3 := u9 mx Tryz.func130 (by kernel_rfl) (f7 (by kernel_rfl))
theorem Je8 : r6 Tryz.prog 142 fun E => l4 E ze4 := u9 mx Tryz.func142 (by kernel_rfl) (f7 (by kernel_rfl))
theorem Je9 : r6 Tryz.prog 157 fun E => l4 E ze5 := u9 mx Tryz.func157 (by kernel_rfl) (f7 (by kernel_rfl))
theorem pe5 : r6 Tryz.prog 163 fun E => l4 E xd7 := u9 mx Tryz.func163 (by kernel_rfl) (f7 (by kernel_rfl))
theorem Ke0 : r6 Tryz.prog 164 fun E => l4 E je2 := u9 mx Tryz.func164 (by kernel_rfl) (f7 (by kernel_rfl))
theorem Ke1 : r6 Tryz.prog 165 fun E => l4 E Pd0 := u9 mx Tryz.func165 (by kernel_rfl) (f7 (by kernel_rfl))
theorem Ke2 : r6 Tryz.prog 166 fun E => l4 E je3 := u9 mx Tryz.func166 (by kernel_rfl) (f7 (by kernel_rfl))
theorem Ke3 : r6 Tryz.prog 167 fun E => l4 E je4 := u9 mx Tryz.func167 (by kernel_rfl) (f7 (by kernel_rfl))
theorem Ke4 : r6 Tryz.prog 168 fun E => l4 E ze6 := u9 mx Tryz.func168 (by kernel_rfl) (f7 (by kernel_rfl))
theorem Ke5 : r6 Tryz.prog 170 fun E => l4 E je5 := u9 mx Tryz.func170 (by kernel_rfl) (f7 (by kernel_rfl))
theorem Ke6 : r6 Tryz.prog 171 fun E => l4 E ze7 := u9 mx Tryz.func171 (by kernel_rfl) (f7 (by kernel_rfl))
theorem Ke7 : r6 Tryz.prog 172 fun E => l4 E ze8 := u9 mx Tryz.func172 (by kernel_rfl) (f7 (by kernel_rfl))
theorem Ke8 : r6 Tryz.prog 173 fun E => l4 E je6 := u9 mx Tryz.func173 (by kernel_rfl) (f7 (by kernel_rfl))
theorem Ke9 : r6 Tryz.prog 174 fun E => l4 E ze9 := u9 mx Tryz.func174 (by kernel_rfl) (f7 (by kernel_rfl))
theorem Le0 : r6 Tryz.prog 175 fun E => l4 E Ae0 := u9 mx Tryz.func175 (by kernel_rfl) (f7 (by kernel_rfl))
theorem Le1 : r6 Tryz.prog 176 fun E => l4 E Ae1 := u9 mx Tryz.func176 (by kernel_rfl) (f7 (by kernel_rfl))
theorem Le2 : r6 Tryz.prog 179 fun E => l4 E Ae2 := u9 mx Tryz.func179 (by kernel_rfl) (f7 (by kernel_rfl))
theorem Le3 : r6 Tryz.prog 180 fun E => l4 E je7 := u9 mx Tryz.func180 (by kernel_rfl) (f7 (by kernel_rfl))
theorem Le4 : r6 Tryz.prog 181 fun E => l4 E Ae3 := u9 mx Tryz.func181 (by kernel_rfl) (f7 (by kernel_rfl))
theorem Le5 : r6 Tryz.prog 182 fun E => l4 E je8 := u9 mx Tryz.func182 (by kernel_rfl) (f7 (by kernel_rfl))
theorem Le6 : r6 Tryz.prog 183 fun E => l4 E je9 := u9 mx Tryz.func183 (by kernel_rfl) (f7 (by kernel_rfl))
theorem Le7 : r6 Tryz.prog 184 fun E => l4 E ke0 := u9 mx Tryz.func184 (by kernel_rfl) (f7 (by kernel_rfl))
theorem Be2 : r6 Tryz.prog 185 fun E => l4 E Pd2 := u9 mx Tryz.func185 (by kernel_rfl) (f7 (by kernel_rfl))
theorem Le8 : r6 Tryz.prog 186 fun E => l4 E Ae4 := u9 mx Tryz.func186 (by kernel_rfl) (f7 (by kernel_rfl))
theorem Le9 : r6 Tryz.prog 187 fun E => l4 E Ae5 := u9 mx Tryz.func187 (by kernel_rfl) (f7 (by kernel_rfl))
theorem Me0 : r6 Tryz.prog 194 fun E => l4 E Ae6 := u9 mx Tryz.func194 (by kernel_rfl) (f7 (by kernel_rfl))
theorem Me1 : r6 Tryz.prog 207 fun E => l4 E ke1 := u9 mx Tryz.func207 (by kernel_rfl) (f7 (by kernel_rfl))
theorem Me2 : r6 Tryz.prog 214 fun E => l4 E Ae7 := u9 mx Tryz.func214 (by kernel_rfl) (f7 (by kernel_rfl))
theorem Me3 : r6 Tryz.prog 215 fun E => l4 E Ae8 := u9 mx Tryz.func215 (by kernel_rfl) (f7 (by kernel_rfl))
theorem Me4 : r6 Tryz.prog 217 fun E => l4 E ke2 := u9 mx Tryz.func217 (by kernel_rfl) (f7 (by kernel_rfl))
theorem Me5 : r6 Tryz.prog 218 fun E => l4 E Pd3 := u9 mx Tryz.func218 (by kernel_rfl) (f7 (by kernel_rfl))
theorem Me6 : r6 Tryz.prog 219 fun E => l4 E Ae9 := u9 mx Tryz.func219 (by kernel_rfl) (f7 (by kernel_rfl))
theorem Me7 : r6 Tryz.prog 220 fun E => l4 E ke3 := u9 mx Tryz.func220 (by kernel_rfl) (f7 (by kernel_rfl))
theorem Me8 : r6 Tryz.prog 221 fun E => l4 E ke4 := u9 mx Tryz.func221 (by kernel_rfl) (f7 (by kernel_rfl))
theorem b89 : r6 Tryz.prog 89 fun E => Ab1 E be7 := ie9 (h := h89) Tryz.func89 (by kernel_rfl) Tryz.func217 (by kernel_rfl) (f7 (by kernel_rfl))
theorem Me9 : r6 Tryz.prog 169 fun E => Ab1 E Pd1 := ie9 (h := xe2) Tryz.func169 (by kernel_rfl) Tryz.func216 (by kernel_rfl) (f7 (by kernel_rfl))
end Go.Ev.Ce
end
namespace Go.Ev.L
open Go Go.Ev
noncomputable def Ab3 : RT → PC → PS2
 | .s a b, .seq x y => .seq (Ab3 a x) (Ab3 b y)
 | .c a b, .cond g x y => .cond g (Ab3 a x) (Ab3 b y)
 | .b a, .block id x => .block id (Ab3 a x)
 | .i a, .inner f x n c => .inner f x n (Ab3 a c)
 | .u S, _ => .sum S
 | _, c => .pc c
theorem Rc7 {E : Env} {k : Nat} (rt : RT) (c : PC) : Ea8 (fun x => ∀ s, U0 (x.1 s) (M1 E k x.2 s)) (Hb7 rt c) → ea8 E k (Ab3 rt c) c := by
 induction rt generalizing c with
 | p => intro h; cases c <;> exact .pc _
 | s a b iha ihb =>
  intro h
  cases c with
  | seq x y => exact .seq (iha x (Ea8.app h).1) (ihb y (Ea8.app h).2)
  | _ => exact .pc _
 | c a b iha ihb =>
  intro h
  cases c with
  | cond g x y => exact .cond g (iha x (Ea8.app h).1) (ihb y (Ea8.app h).2)
  | _ => exact .pc _
 | b a iha =>
  intro h
  cases c with
  | block id x => exact .block id (iha x h)
  | _ => exact .pc _
 | l a iha => intro h; cases c <;> exact .pc _
 | i a iha =>
  intro h
  cases c with
  | inner f x n c => exact .inner f x n (iha c h)
  | _ => exact .pc _
 | u S =>
  intro h
  have : Hb7 (.u S) c = [(S, c)] := by cases c <;> rfl
  rw [this] at h
  cases h with
  | cons h t =>
   have e : Ab3 (.u S) c = .sum S := by cases c <;> rfl
   rw [e]
   exact .sum h
section
variable {π σ : Type} {E : Env} {k : Nat} {keep : List Nat} {alts : List (Al2 π σ)} {enc : π → σ → St} {step : π → σ → Stp σ} {xs : Xs π σ} {body : PS2} {c : PC}
theorem zb3.belowM (hb : ea8 E k body c) (hN : E.N = rounds + 1) (w : zb3 ed2 k keep (ac8 E k body) alts step xs enc) (s : St) : U0 (Kc9 ed2 k keep alts step xs s) (M1 E k (.loopM keep c) s) := fun r hr => by
 obtain ⟨t, h1, h2⟩ := w.go hr
 rw [rd4, hN]
 exact pb7 hb.le _ _ _ (Fb0 h1 h2)
theorem zb3.belowML (hb : ea8 E k body c) (hN : E.N = rounds + 1) (w : zb3 yb7 k keep (ac8 E k body) alts step xs enc) (s : St) : U0 (Kc9 yb7 k keep alts step xs s) (M1 E k (.loop keep c) s) := fun r hr => by
 obtain ⟨t, h1, h2⟩ := w.go hr
 rw [Kc8, hN]
 exact pb7 hb.le _ _ _ (Fb0 h1 h2)
end
end Go.Ev.L
namespace Go.Ev.Ab
open Go Go.Ev
@[reducible] def o (d : Nat) (x : PO) : PI := ⟨some d, none, [], x⟩
@[reducible] def s (x : PO) : PI := ⟨none, none, [], x⟩
@[reducible] def cb (b : Bool) : Arg := .c (.v (.bool b))
@[reducible] def vi (n : Int) : b7 := .v (.int .i64 n)
@[reducible] def rep {α : Type} (n : Nat) (x : α) : List α := List.replicate n x
@[reducible] def ki (n : Nat) : List CK := List.replicate n (.int .i64)
@[reducible] def mv (d n : Nat) : PI := o d (.mv (.t n))
@[reducible] def mb (d : Nat) (x : Bool) : PI := o d (.mv (cb x))
@[reducible] def fd (d k n : Nat) : PI := o d (.fld k (.t n))
@[reducible] def lf (d k n : Nat) : PI := o d (.load (ki k) k false (.t n))
@[reducible] def ex (d x k : Nat) : PI := o d (.ext (.t x) k)
@[reducible] def gf (n : Nat) (x : PI) : PI := ⟨x.dst, some (n, false), x.hide, x.op⟩
@[reducible] def so (l : List PI) (x : PC) : PC := .seq (.ops l) x
@[reducible] def ts (l : List Nat) : List Arg := l.map .t
@[reducible] def cl (f : Nat) (l : List Nat) : PO := .call f (ts l)
@[reducible] def sT (k a b : Nat) : PI := s (.store k (.t a) (.t b))
@[reducible] def pa (d c x : Nat) : PI := o d (.pick (.t c) (.t x) (cb false))
@[reducible] def po (d c x : Nat) : PI := o d (.pick (.t c) (cb true) (.t x))
@[reducible] def al (d k : Nat) (n : Int) : PI := o d (.alloc (rep k (vi n)))
@[reducible] def ap (d et es n x y : Nat) : PI := o d (.append et es n (.t x) (.t y))
end Go.Ev.Ab
namespace Go.Ev.L
open Go Go.Ev
def Cps {π σ : Type} (u : ∀ {α : Type}, (σ → α) → (Nat → α) → α → π → σ → α) : Prop :=
 ∀ {α β : Type} (F : α → β) (k : σ → α) (e : Nat → α) (z : α) (p : π) (s : σ), F (u k e z p s) = u (fun x => F (k x)) (fun t => F (e t)) (F z) p s
@[reducible] noncomputable def foL {π σ : Type} (en : π → σ → St) (xs : Xs π σ) (p : π) (s : σ) : Stp σ → Option (d7 × St) := yb8 (fun s' => some (.normal, en p s')) (fun t => xOf xs p s t 1) none
structure Lo (π σ : Type) where
 E : Env
 k : Nat
 F : PFn
 at' : List Nat
 kp : List Nat
 rt : RT
 al : List (Al2 π σ)
 st : π → σ → Stp σ
 xs : Xs π σ
 en : π → σ → St
namespace Lo
variable {π σ : Type} (L : Lo π σ)
noncomputable def lc : PC := Fe0 L.at' L.F.body
noncomputable def ls : St → DT (d7 × St) := Kc9 yb7 L.k L.kp L.al L.st L.xs
noncomputable def lsM : St → DT (d7 × St) := Kc9 ed2 L.k L.kp L.al L.st L.xs
noncomputable def pr : (St → DT (d7 × St)) × PC := (L.ls, .loop L.kp L.lc)
noncomputable def prM : (St → DT (d7 × St)) × PC := (L.lsM, .loopM L.kp L.lc)
def Ok : Prop := ∀ s, Z3 L.k L.F.res (L.pr.1 s) (M1 L.E L.k L.pr.2 s)
def OkE : Prop := ∀ s, U0 (L.pr.1 s) (M1 L.E L.k L.pr.2 s)
def OkM : Prop := ∀ s, U0 (L.prM.1 s) (M1 L.E L.k L.prM.2 s)
def Rd (hd : St → DT St) (bd : St → DT (d7 × St)) (p : π) (s : σ) (a : St) (b : Stp σ) : Prop := (pb8 hd bd a).run = foL L.en L.xs p s b
def H0 : Prop := ∀ p s, L.Rd (yb7 L.k L.kp) (wd1 L.E L.k L.F.res (Cc6 L.rt L.lc)) p s (L.en p s) (L.st p s)
def H1 : Prop := ∀ p s, L.Rd (yb7 L.k L.kp) (ac8 L.E L.k (Ab3 L.rt L.lc)) p s (L.en p s) (L.st p s)
def H2 : Prop := ∀ p s, L.Rd (ed2 L.k L.kp) (ac8 L.E L.k (Ab3 L.rt L.lc)) p s (L.en p s) (L.st p s)
def HA : Prop := Ea8 (fun x => ∀ a H, (⟨Ed3 x.sh a, Ed4 x.bl H⟩ : St) = L.en (x.rd a H).1 (x.rd a H).2) L.al
variable {L}
theorem Rd.of {hd : St → DT St} {bd : St → DT (d7 × St)} {p : π} {s : σ} {a : St} (u : ∀ {α : Type}, (σ → α) → (Nat → α) → α → π → σ → α)
  (q : Cps @u) (H : (pb8 hd bd a).run = u (fun x => foL L.en L.xs p s (.next x)) (fun t => foL L.en L.xs p s (.exit t)) (foL L.en L.xs p s .fail) p s) : L.Rd hd bd p s a (u .next .exit .fail p s) :=
 H.trans (q (foL L.en L.xs p s) Stp.next Stp.exit Stp.fail p s).symm
theorem Rd.sel {hd : St → DT St} {bd : St → DT (d7 × St)} {p : π} {s : σ} {a1 a0 : St} {b1 b0 : Stp σ} (c : Bool) (h1 : L.Rd hd bd p s a1 b1) (h0 : L.Rd hd bd p s a0 b0) : L.Rd hd bd p s (sel c a1 a0) (sel c b1 b0) := by
 cases c with
 | true => exact h1
 | false => exact h0
theorem ok (l : List ((St → DT (d7 × St)) × PC)) (hs : Hb7 L.rt L.lc = l) (hl : Ea8 (fun x => ∀ s, Z3 L.k L.F.res (x.1 s) (M1 L.E L.k x.2 s)) l) (hN : L.E.N = rounds + 1) (ha : L.HA) (h : L.H0) : L.Ok :=
 zb3.belowC (wd9 _ _ (by rw [hs]; exact hl)) hN ⟨ha, h⟩
theorem okE (l : List ((St → DT (d7 × St)) × PC)) (hs : Hb7 L.rt L.lc = l) (hl : Ea8 (fun x => ∀ s, U0 (x.1 s) (M1 L.E L.k x.2 s)) l) (hN : L.E.N = rounds + 1) (ha : L.HA) (h : L.H1) : L.OkE :=
 zb3.belowML (Rc7 _ _ (by rw [hs]; exact hl)) hN ⟨ha, h⟩
theorem okM (l : List ((St → DT (d7 × St)) × PC)) (hs : Hb7 L.rt L.lc = l) (hl : Ea8 (fun x => ∀ s, U0 (x.1 s) (M1 L.E L.k x.2 s)) l) (hN : L.E.N = rounds + 1) (ha : L.HA) (h : L.H2) : L.OkM :=
 zb3.belowM (Rc7 _ _ (by rw [hs]; exact hl)) hN ⟨ha, h⟩
end Lo
theorem Ba5 {E : Env} {F : PFn} {args : List b7} {blks : List b8} {o : Option (b7 × List b8)} (rt : RT) (l : List ((St → DT (d7 × St)) × PC)) (hs : Hb7 rt F.body = l)
  (hl : Ea8 (fun x => ∀ s, Z3 (len blks) F.res (x.1 s) (M1 E (len blks) x.2 s)) l) (h : (we0 E F (Cc6 rt F.body) args blks).run = o) (r : b7 × List b8) (hr : o = some r) : (l4 E F args blks).run = some r :=
 pd9 (wd9 rt _ (by rw [hs]; exact hl)) r (h.trans hr)
theorem ke5 {E : Env} {F : PFn} {args : List b7} {blks : List b8} {o : Option (b7 × List b8)} (rt : RT) (l : List ((St → DT (d7 × St)) × PC)) (hs : Hb7 rt F.body = l)
  (hl : Ea8 (fun x => ∀ s, U0 (x.1 s) (M1 E (len blks) x.2 s)) l) (h : (ie8 E F (Ab3 rt F.body) args blks).run = o) (r : b7 × List b8) (hr : o = some r) : (Ab1 E F args blks).run = some r :=
 ed1 (Rc7 rt _ (by rw [hs]; exact hl)) r (h.trans hr)
theorem s9 {A o : Option (b7 × List b8)} (h : A = o) (r : b7 × List b8) (hr : o = some r) : A = some r := h.trans hr
end Go.Ev.L
namespace Go.Ev.Ce
structure V3 where
 x : Int
 y : Int
 z : Int
structure Pln where
 n : V3
 b : Int
structure Pt where
 px : Int
 py : Int
 pz : Int
 pw : Int
def i6 (a b : V3) : V3 := ⟨a.y * b.z - a.z * b.y, a.z * b.x - a.x * b.z, a.x * b.y - a.y * b.x⟩
def dot (a b : V3) : Int := a.x * b.x + a.y * b.y + a.z * b.z
def mw (p q r : Pln) : Int := dot p.n (i6 q.n r.n)
end Go.Ev.Ce
namespace Go.Ev.Ce
open Go Go.Ev Go.Ev.L Go.Proofs
@[reducible] noncomputable def prog : Program := Tryz.prog
noncomputable def G : Nat → List Value := fun _ => []
noncomputable def En (l : List (Nat × Sum)) : Env := { P := prog, G, fns := fun _ => none, call := ne4 l, own := fun f j => Bool.and (Na6 f [99, 103, 105, 135, 163, 198, 200, 202]) (Nat.beq j 0), N := 18446744073709551616 }
@[reducible] def u : b7 := .v (.tuple #[])
theorem Be3 {l : List (Nat × Sum)} (h : l5 prog G l) : ∀ f, j7 (En l).P (En l).G f ((En l).call f) := vd9 h
theorem bd {l : List (Nat × Sum)} {f : FuncId} {R : Env → Sum} (b : r6 prog f R) (h : l5 prog G l) : j7 prog G f (R (En l)) := b rfl (Be3 h)
noncomputable def tV : Ty V3 where
 es := 3
 row x := [i x.x, i x.y, i x.z]
 rd r := ⟨toI (hdA r), toI (hdA (tlA r)), toI (hdA (tlA (tlA r)))⟩
 ok r := Ba3 3 r
 cks := List.replicate 3 (.int .i64)
 d := ⟨0, 0, 0⟩
 h0 _ := rfl
 h1 _ := rfl
 h2 _ := rfl
 h3 _ h := .of (Ka0 h)
 h4 _ := rfl
 h5 _ := rfl
noncomputable def r1V : R1 V3 := r1A tV 3 fun _ h => h
noncomputable def tP : Ty Pln where
 es := 4
 row x := [i x.n.x, i x.n.y, i x.n.z, i x.b]
 rd r := ⟨⟨toI (hdA r), toI (hdA (tlA r)), toI (hdA (tlA (tlA r)))⟩, toI (hdA (tlA (tlA (tlA r))))⟩
 ok r := Ba3 4 r
 cks := List.replicate 4 (.int .i64)
 d := ⟨⟨0, 0, 0⟩, 0⟩
 h0 _ := rfl
 h1 _ := rfl
 h2 _ := rfl
 h3 _ h := .of (Ka0 h)
 h4 _ := rfl
 h5 _ := rfl
noncomputable def r1P : R1 Pln := r1A tP 4 fun _ h => h
noncomputable def tX : Ty Pt where
 es := 4
 row x := [i x.px, i x.py, i x.pz, i x.pw]
 rd r := ⟨toI (hdA r), toI (hdA (tlA r)), toI (hdA (tlA (tlA r))), toI (hdA (tlA (tlA (tlA r))))⟩
 ok r := Ba3 4 r
 cks := List.replicate 4 (.int .i64)
 d := ⟨0, 0, 0, 0⟩
 h0 _ := rfl
 h1 _ := rfl
 h2 _ := rfl
 h3 _ h := .of (Ka0 h)
 h4 _ := rfl
 h5 _ := rfl
noncomputable def r1X : R1 Pt := r1A tX 4 fun _ h => h
structure Tp where
 p : Pln
 q : Pln
 r : Pln
noncomputable def tY : Ty Tp where
 es := 12
 row x := [i x.p.n.x, i x.p.n.y, i x.p.n.z, i x.p.b, i x.q.n.x, i x.q.n.y, i x.q.n.z, i x.q.b, i x.r.n.x, i x.r.n.y, i x.r.n.z, i x.r.b]
 rd r := ⟨⟨⟨toI (hdA r), toI (hdA (tlA r)), toI (hdA (tlA (tlA r)))⟩, toI (hdA (tlA (tlA (tlA r))))⟩, ⟨⟨toI (hdA (tlA (tlA (tlA (tlA r))))), toI (hdA (tlA (tlA (tlA (tlA (tlA r)))))), toI (hdA (tlA (tlA (tlA (tlA (tlA (tlA r)))))))⟩, toI (hdA (tlA (tlA (tlA (tlA (tlA (tlA (tlA r))))))))⟩, ⟨⟨toI (hdA (tlA (tlA (tlA (tlA (tlA (tlA (tlA (tlA r))))))))), toI (hdA (tlA (tlA (tlA (tlA (tlA (tlA (tlA (tlA (tlA r)))))))))), toI (hdA (tlA (tlA (tlA (tlA (tlA (tlA (tlA (tlA (tlA (tlA r)))))))))))⟩, toI (hdA (tlA (tlA (tlA (tlA (tlA (tlA (tlA (tlA (tlA (tlA (tlA r))))))))))))⟩⟩
 ok r := Ba3 12 r
 cks := List.replicate 12 (.int .i64)
 d := ⟨⟨⟨0, 0, 0⟩, 0⟩, ⟨⟨0, 0, 0⟩, 0⟩, ⟨⟨0, 0, 0⟩, 0⟩⟩
 h0 _ := rfl
 h1 _ := rfl
 h2 _ := rfl
 h3 _ h := .of (Ka0 h)
 h4 _ := rfl
 h5 _ := rfl
structure Q2 where
 a : V3
 b : V3
end Go.Ev.Ce
section
namespace Go.Ev.Ce
open Go Go.Ev Go.Ev.L Go.Proofs
set_option maxRecDepth 100000
noncomputable def ed4 : List (Nat × Sum) := []
theorem Rc8 : l5 prog G ed4 := trivial
noncomputable def Ka1 (x : Pln) (y : Pt) : Int := (W ((W ((W ((W (x.b * y.pw)) - (W (x.n.x * y.px)))) - (W (x.n.y * y.py)))) - (W (x.n.z * y.pz))))
noncomputable def qb4 : Sum := ja9 (V6 tP) (V6 tX) (fun x y => .ret ((one r1I).enc (Ka1 x y), []))
theorem Ab4 : j7 prog G 37 qb4 := ra5 (bd b37 Rc8) fun x y => s9 (by kernel_rfl)
noncomputable def rd5 : List (Nat × Sum) := []
theorem ed5 : l5 prog G rd5 := trivial
noncomputable def Xa6 (x : V3) (y : V3) : V3 := (⟨(W (x.x + y.x)), (W (x.y + y.y)), (W (x.z + y.z))⟩ : V3)
noncomputable def Lc7 : Sum := ja9 (V6 tV) (V6 tV) (fun x y => .ret ((one r1V).enc (Xa6 x y), []))
theorem rd6 : j7 prog G 126 Lc7 := ra5 (bd Je5 ed5) fun x y => s9 (by kernel_rfl)
noncomputable def rd7 : List (Nat × Sum) := []
theorem ed6 : l5 prog G rd7 := trivial
noncomputable def pa9 (x : V3) (y : V3) : Int := (W ((W ((W (x.x * y.x)) + (W (x.y * y.y)))) + (W (x.z * y.z))))
noncomputable def Fb8 : Sum := ja9 (V6 tV) (V6 tV) (fun x y => .ret ((one r1I).enc (pa9 x y), []))
theorem Mb8 : j7 prog G 130 Fb8 := ra5 (bd Je7 ed6) fun x y => s9 (by kernel_rfl)
noncomputable def Rc9 : List (Nat × Sum) := []
theorem Cc7 : l5 prog G Rc9 := trivial
noncomputable def Q8 (x : V3) (y : V3) : V3 := (⟨(W ((W (x.y * y.z)) - (W (x.z * y.y)))), (W ((W (x.z * y.x)) - (W (x.x * y.z)))), (W ((W (x.x * y.y)) - (W (x.y * y.x))))⟩ : V3)
noncomputable def Ab5 : Sum := ja9 (V6 tV) (V6 tV) (fun x y => .ret ((one r1V).enc (Q8 x y), []))
theorem Sb8 : j7 prog G 186 Ab5 := ra5 (bd Le8 Cc7) fun x y => s9 (by kernel_rfl)
noncomputable def Cc8 : List (Nat × Sum) := []
theorem tc7 : l5 prog G Cc8 := trivial
noncomputable def O5 (x : V3) (y : Int) : V3 := (⟨(W (x.x * y)), (W (x.y * y)), (W (x.z * y))⟩ : V3)
noncomputable def Sb9 : Sum := ja9 (V6 tV) cI (fun x y => .ret ((one r1V).enc (O5 x y), []))
theorem Cc9 : j7 prog G 219 Sb9 := ra5 (bd Me6 tc7) fun x y => s9 (by kernel_rfl)
noncomputable def Jb9 : List (Nat × Sum) := []
theorem tc8 : l5 prog G Jb9 := trivial
structure sa5 where
structure V7 where
 is0 : Int
 is1 : Int
noncomputable def jc4 (p : sa5) (s : V7) : St := ⟨((i s.is0) :: ((i s.is1) :: (ra 10 []))), []⟩
noncomputable def ka3 {α : Type} (k : V7 → α) (e : Nat → α) (z : α) (p : sa5) (s : V7) : α := (sl (s.is1 != 0) (sl (s.is1 == 0) z (k ⟨s.is1, (Int.tmod s.is0 s.is1)⟩)) (e 1))
noncomputable def oa2 (p : sa5) (s : V7) : Stp V7 := ka3 .next .exit .fail p s
noncomputable def Za4 : Lo sa5 V7 := ⟨En Jb9, 0, ke3, [1, 0, 4, 4], [0, 1], .p, [⟨((.s (.o (.int .i64))) :: ((.s (.o (.int .i64))) :: (ru2 10 []))), [], fun a H => (⟨⟩, ⟨(toI (slT a 0)), (toI (slT a 1))⟩)⟩], oa2, [(some 0, fun p s => ⟨((i s.is0) :: ((i s.is1) :: (ra 3 ((i s.is1) :: ((b (s.is1 != 0)) :: (ra 5 [])))))), []⟩)], jc4⟩
theorem jc5 : Za4.Ok := Lo.ok [] (by kernel_rfl) .nil rfl (.cons (fun a H => by kernel_rfl) .nil) fun p s => (.of @ka3 (fun F _ _ _ _ _ => by unfold ka3; (repeat' apply n7 (f := F)) <;> rfl) (by kernel_rfl))
noncomputable def Ea9 (x : Int) (y : Int) : Option (b7 × List b8) := let t1 := (lp (oa2 (⟨⟩ : sa5)) (⟨x, y⟩ : V7)); (sl (Nat.beq t1.1 1) (some ((i t1.2.is0), [])) none)
noncomputable def O6 (x : Int) (y : Int) : Int := O4 (one r1I) (Ea9 x y)
noncomputable def O7 (x : Int) (y : Int) : Bool := okO (one r1I) (Ea9 x y)
noncomputable def Tb0 : Sum := ja9 cI cI (fun x y => .guard (O7 x y) (.ret ((one r1I).enc (O6 x y), [])))
theorem Dc0 : j7 prog G 220 Tb0 := lb8 (bd Me7 tc8) (one r1I) (o := Ea9) fun x y => Ba5 (.s .p (.s (.b (.u Za4.ls)) .p)) [Za4.pr] (by kernel_rfl) (.cons jc5 .nil) (by kernel_rfl)
noncomputable def ed7 : List (Nat × Sum) := [(186, Ab5), (130, Fb8), (219, Sb9), (126, Lc7), (220, Tb0)]
theorem Sc0 : l5 prog G ed7 := ⟨Sb8, Mb8, Cc9, rd6, Dc0, trivial⟩
noncomputable def Za5 (x : Pln) (y : Pln) (z : Pln) : Option (b7 × List b8) := let t1 := (Q8 y.n z.n); let t2 := (pa9 x.n t1); let t3 := (O5 t1 x.b); let t4 := (Q8 z.n x.n); let t5 := (O5 t4 y.b); let t6 := (Xa6 t3 t5); let t7 := (Q8 x.n y.n); let t8 := (O5 t7 z.b); let t9 := (Xa6 t6 t8); let t10 := (O5 t9 (-1)); let t11 := (O6 (if (W (0 - t10.x)) > t10.x then (W (0 - t10.x)) else t10.x) (if (W (0 - t10.y)) > t10.y then (W (0 - t10.y)) else t10.y)); let t12 := (O6 (if (W (0 - t10.z)) > t10.z then (W (0 - t10.z)) else t10.z) (W (0 - t2))); let t13 := (O6 t11 t12); let t14 := (O6 (if (W (0 - t9.x)) > t9.x then (W (0 - t9.x)) else t9.x) (if (W (0 - t9.y)) > t9.y then (W (0 - t9.y)) else t9.y)); let t15 := (O6 (if (W (0 - t9.z)) > t9.z then (W (0 - t9.z)) else t9.z) t2); let t16 := (O6 t14 t15); (sl (t2 == 0) (some ((.tup [(.agg [(i 0), (i 0), (i 0), (i 0)]), (b false)]), [])) (sl (decide (t2 < 0)) (sl (O7 (if (W (0 - t10.x)) > t10.x then (W (0 - t10.x)) else t10.x) (if (W (0 - t10.y)) > t10.y then (W (0 - t10.y)) else t10.y)) (sl (O7 (if (W (0 - t10.z)) > t10.z then (W (0 - t10.z)) else t10.z) (W (0 - t2))) (sl (O7 t11 t12) (sl (t13 == 0) none (sl (t13 == 0) none (sl (t13 == 0) none (sl (t13 == 0) none (some ((.tup [(.agg [(i (W (Int.tdiv t10.x t13))), (i (W (Int.tdiv t10.y t13))), (i (W (Int.tdiv t10.z t13))), (i (W (Int.tdiv (W (0 - t2)) t13)))]), (b true)]), [])))))) none) none) none) (sl (O7 (if (W (0 - t9.x)) > t9.x then (W (0 - t9.x)) else t9.x) (if (W (0 - t9.y)) > t9.y then (W (0 - t9.y)) else t9.y)) (sl (O7 (if (W (0 - t9.z)) > t9.z then (W (0 - t9.z)) else t9.z) t2) (sl (O7 t14 t15) (sl (t16 == 0) none (sl (t16 == 0) none (sl (t16 == 0) none (sl (t16 == 0) none (some ((.tup [(.agg [(i (W (Int.tdiv t9.x t16))), (i (W (Int.tdiv t9.y t16))), (i (W (Int.tdiv t9.z t16))), (i (W (Int.tdiv t2 t16)))]), (b true)]), [])))))) none) none) none)))
noncomputable def Za6 (x : Pln) (y : Pln) (z : Pln) : Pt × Bool := O4 (two r1X r1B) (Za5 x y z)
noncomputable def Za7 (x : Pln) (y : Pln) (z : Pln) : Bool := okO (two r1X r1B) (Za5 x y z)
noncomputable def tc9 : Sum := Qc4 (V6 tP) (V6 tP) (V6 tP) (fun x y z => .guard (Za7 x y z) (.ret ((two r1X r1B).enc (Za6 x y z), [])))
theorem ed8 : j7 prog G 172 tc9 := we5 (bd Ke7 Sc0) (two r1X r1B) (o := Za5) fun x y z => s9 (by kernel_rfl)
noncomputable def Lc8 : List (Nat × Sum) := [(37, qb4)]
theorem rd8 : l5 prog G Lc8 := ⟨Ab4, trivial⟩
structure Za8 where
 c9 : List Pln
 f9 : Int
 c7 : Int
 g7 : Int
 d9 : Int
structure na5 where
 is5 : Int
noncomputable def ed9 (p : Za8) (s : na5) : St := ⟨((eL tP p.c9) :: (.unk :: (.unk :: ((.ptr 0 0 0 0) :: (.unk :: ((i s.is5) :: (ra 13 []))))))), [⟨0, 4, [[(i p.f9), (i p.c7), (i p.g7), (i p.d9)]], true, false, 0⟩]⟩
noncomputable def Fa0 {α : Type} (k : na5 → α) (e : Nat → α) (z : α) (p : Za8) (s : na5) : α := let t1 := (Ka1 (gL tP p.c9 s.is5.toNat) (⟨p.f9, p.c7, p.g7, p.d9⟩ : Pt)); (sl (decide (s.is5 < (↑(List.length p.c9) : Int))) (sl (inB s.is5 (List.length p.c9)) (sl (decide (t1 < 0)) (e 1) (k ⟨(W (s.is5 + 1))⟩)) z) (e 2))
noncomputable def Oa0 (p : Za8) (s : na5) : Stp na5 := Fa0 .next .exit .fail p s
noncomputable def Mb9 : Lo Za8 na5 := ⟨En Lc8, 0, je1, [1, 0, 1, 4, 4], [0, 3, 5], .p, [⟨((.s (.c 4 (nL tP))) :: ((.s (.o .unk)) :: ((.s (.o .unk)) :: ((.s (.o (.ptr 0 0 0 0))) :: ((.s (.o .unk)) :: ((.s (.o (.int .i64))) :: (ru2 13 []))))))), [⟨0, 4, true, (some [[(.o (.int .i64)), (.o (.int .i64)), (.o (.int .i64)), (.o (.int .i64))]])⟩], fun a H => (⟨(rL tP (slT a 0)), (toI (slT (rwT (elT H 0) 0) 0)), (toI (slT (rwT (elT H 0) 0) 1)), (toI (slT (rwT (elT H 0) 0) 2)), (toI (slT (rwT (elT H 0) 0) 3))⟩, ⟨(toI (slT a 5))⟩)⟩], Oa0, [(none, fun p s => ⟨[(b false)], []⟩), (some 0, fun p s => ⟨((eL tP p.c9) :: (.unk :: (.unk :: ((.ptr 0 0 0 0) :: (.unk :: ((i s.is5) :: ((i s.is5) :: ((eL tP p.c9) :: ((i (↑(List.length p.c9) : Int)) :: ((b (decide (s.is5 < (↑(List.length p.c9) : Int)))) :: (ra 9 []))))))))))), [⟨0, 4, [[(i p.f9), (i p.c7), (i p.g7), (i p.d9)]], true, false, 0⟩]⟩)], ed9⟩
theorem fd0 : Mb9.Ok := Lo.ok [] (by kernel_rfl) .nil rfl (.cons (fun a H => by kernel_rfl) .nil) fun p s => (.of @Fa0 (fun F _ _ _ _ _ => by unfold Fa0; (repeat' apply n7 (f := F)) <;> rfl) (by kernel_rfl))
noncomputable def Ab6 (x : List Pln) (y : Pt) : Option (b7 × List b8) := let t1 := (lp (Oa0 (⟨(rt tP x), y.px, y.py, y.pz, y.pw⟩ : Za8)) (⟨0⟩ : na5)); (sl ((cnE tP x) && true) (sl (Nat.beq t1.1 1) (some ((b false), [])) (sl (Nat.beq t1.1 2) (some ((b true), [])) none)) none)
noncomputable def mb3 (x : List Pln) (y : Pt) : Bool := O4 (one r1B) (Ab6 x y)
noncomputable def mb4 (x : List Pln) (y : Pt) : Bool := okO (one r1B) (Ab6 x y)
noncomputable def fd1 : Sum := ja9 (ga9 tP) (V6 tX) (fun x y => .guard (mb4 x y) (.ret ((one r1B).enc (mb3 x y), [])))
theorem Gd3 : j7 prog G 110 fd1 := lb8 (bd Ie8 rd8) (one r1B) (o := Ab6) fun x y => Ba5 (.s .p (.s (.s .p (.b (.u Mb9.ls))) .p)) [Mb9.pr] (by kernel_rfl) (.cons fd0 .nil) (by kernel_rfl)
noncomputable def Tb1 : List (Nat × Sum) := []
theorem Dc1 : l5 prog G Tb1 := trivial
structure xa7 where
 A8 : List Pt
 f9 : Int
 c7 : Int
 g7 : Int
 d9 : Int
structure U1 where
 is5 : Int
noncomputable def uc0 (p : xa7) (s : U1) : St := ⟨((eL tX p.A8) :: (.unk :: (.unk :: ((.ptr 0 0 0 0) :: (.unk :: ((i s.is5) :: (ra 12 []))))))), [⟨0, 4, [[(i p.f9), (i p.c7), (i p.g7), (i p.d9)]], true, false, 0⟩]⟩
noncomputable def oa3 {α : Type} (k : U1 → α) (e : Nat → α) (z : α) (p : xa7) (s : U1) : α := (sl (decide (s.is5 < (↑(List.length p.A8) : Int))) (sl (inB s.is5 (List.length p.A8)) (sl (((gL tX p.A8 s.is5.toNat).px == p.f9) && (((gL tX p.A8 s.is5.toNat).py == p.c7) && (((gL tX p.A8 s.is5.toNat).pz == p.g7) && (((gL tX p.A8 s.is5.toNat).pw == p.d9) && true)))) (e 1) (k ⟨(W (s.is5 + 1))⟩)) z) (e 2))
noncomputable def sa6 (p : xa7) (s : U1) : Stp U1 := oa3 .next .exit .fail p s
noncomputable def ib7 : Lo xa7 U1 := ⟨En Tb1, 0, je6, [1, 0, 1, 4, 4], [0, 3, 5], .p, [⟨((.s (.c 4 (nL tX))) :: ((.s (.o .unk)) :: ((.s (.o .unk)) :: ((.s (.o (.ptr 0 0 0 0))) :: ((.s (.o .unk)) :: ((.s (.o (.int .i64))) :: (ru2 12 []))))))), [⟨0, 4, true, (some [[(.o (.int .i64)), (.o (.int .i64)), (.o (.int .i64)), (.o (.int .i64))]])⟩], fun a H => (⟨(rL tX (slT a 0)), (toI (slT (rwT (elT H 0) 0) 0)), (toI (slT (rwT (elT H 0) 0) 1)), (toI (slT (rwT (elT H 0) 0) 2)), (toI (slT (rwT (elT H 0) 0) 3))⟩, ⟨(toI (slT a 5))⟩)⟩], sa6, [(none, fun p s => ⟨[(b true)], []⟩), (some 0, fun p s => ⟨((eL tX p.A8) :: (.unk :: (.unk :: ((.ptr 0 0 0 0) :: (.unk :: ((i s.is5) :: ((i s.is5) :: ((eL tX p.A8) :: ((i (↑(List.length p.A8) : Int)) :: ((b (decide (s.is5 < (↑(List.length p.A8) : Int)))) :: (ra 8 []))))))))))), [⟨0, 4, [[(i p.f9), (i p.c7), (i p.g7), (i p.d9)]], true, false, 0⟩]⟩)], uc0⟩
theorem uc1 : ib7.Ok := Lo.ok [] (by kernel_rfl) .nil rfl (.cons (fun a H => by kernel_rfl) .nil) fun p s => (.of @oa3 (fun F _ _ _ _ _ => by unfold oa3; (repeat' apply n7 (f := F)) <;> rfl) (by kernel_rfl))
noncomputable def Oa1 (x : List Pt) (y : Pt) : Option (b7 × List b8) := let t1 := (lp (sa6 (⟨(rt tX x), y.px, y.py, y.pz, y.pw⟩ : xa7)) (⟨0⟩ : U1)); (sl ((cnE tX x) && true) (sl (Nat.beq t1.1 1) (some ((b true), [])) (sl (Nat.beq t1.1 2) (some ((b false), [])) none)) none)
noncomputable def Da0 (x : List Pt) (y : Pt) : Bool := O4 (one r1B) (Oa1 x y)
noncomputable def Da1 (x : List Pt) (y : Pt) : Bool := okO (one r1B) (Oa1 x y)
noncomputable def gc6 : Sum := ja9 (ga9 tX) (V6 tX) (fun x y => .guard (Da1 x y) (.ret ((one r1B).enc (Da0 x y), [])))
theorem Sc1 : j7 prog G 173 gc6 := lb8 (bd Ke8 Dc1) (one r1B) (o := Oa1) fun x y => Ba5 (.s .p (.s (.s .p (.b (.u ib7.ls))) .p)) [ib7.pr] (by kernel_rfl) (.cons uc1 .nil) (by kernel_rfl)
noncomputable def Fa1 : List (Nat × Sum) := [(172, tc9), (110, fd1), (173, gc6)]
theorem jc6 : l5 prog G Fa1 := ⟨ed8, Gd3, Sc1, trivial⟩
structure K6 where
 c9 : List Pln
 is4 : Int
 is5 : Int
structure p8 where
 ph : Nat
 is6 : Int
 ns3 : Nat
 eh0 : List (List b7)
noncomputable def Tb2 (p : K6) (s : p8) : St := ⟨((eL tP p.c9) :: (.unk :: (.unk :: ((.v (.slice none 0 0)) :: ((i p.is4) :: ((i p.is5) :: ((i s.is6) :: (ra 57 [])))))))), []⟩
noncomputable def Tb3 (p : K6) (s : p8) : St := ⟨((eL tP p.c9) :: (.unk :: (.unk :: ((.sl 0 0 s.ns3 0) :: ((i p.is4) :: ((i p.is5) :: ((i s.is6) :: (ra 57 [])))))))), [⟨54, 4, s.eh0, true, false, 0⟩]⟩
noncomputable def ac9 (p : K6) (s : p8) : St := (sel (Nat.beq s.ph 1) (Tb3 p s) (Tb2 p s))
noncomputable def O8 {α : Type} (k : p8 → α) (e : Nat → α) (z : α) (p : K6) (s : p8) : α := let t1 := (Za6 (gL tP p.c9 p.is4.toNat) (gL tP p.c9 p.is5.toNat) (gL tP p.c9 s.is6.toNat)); let t2 := (mb3 (rt tP p.c9) t1.1); let t3 := (Da0 [] t1.1); (sl (decide (s.is6 < (↑(List.length p.c9) : Int))) (sl (inB p.is4 (List.length p.c9)) (sl (inB p.is5 (List.length p.c9)) (sl (inB s.is6 (List.length p.c9)) (sl (Za7 (gL tP p.c9 p.is4.toNat) (gL tP p.c9 p.is5.toNat) (gL tP p.c9 s.is6.toNat)) (sl t1.2 (sl (okE tP p.c9) (sl (mb4 (rt tP p.c9) t1.1) (sl t2 (sl (Da1 [] t1.1) (sl (!t3) (k ⟨1, (W (s.is6 + 1)), 1, [[(i t1.1.px), (i t1.1.py), (i t1.1.pz), (i t1.1.pw)]]⟩) (k ⟨0, (W (s.is6 + 1)), 0, []⟩)) z) (k ⟨0, (W (s.is6 + 1)), 0, []⟩)) z) z) (k ⟨0, (W (s.is6 + 1)), 0, []⟩)) z) z) z) z) (e 1))
noncomputable def O9 {α : Type} (k : p8 → α) (e : Nat → α) (z : α) (p : K6) (s : p8) : α := let t1 := (Za6 (gL tP p.c9 p.is4.toNat) (gL tP p.c9 p.is5.toNat) (gL tP p.c9 s.is6.toNat)); let t2 := (mb3 (rt tP p.c9) t1.1); let t3 := (Da0 (slR tX s.eh0 0 s.ns3) t1.1); (sl (decide (s.is6 < (↑(List.length p.c9) : Int))) (sl (inB p.is4 (List.length p.c9)) (sl (inB p.is5 (List.length p.c9)) (sl (inB s.is6 (List.length p.c9)) (sl (Za7 (gL tP p.c9 p.is4.toNat) (gL tP p.c9 p.is5.toNat) (gL tP p.c9 s.is6.toNat)) (sl t1.2 (sl (okE tP p.c9) (sl (mb4 (rt tP p.c9) t1.1) (sl t2 (sl (okS tX s.eh0 0 s.ns3) (sl (Da1 (slR tX s.eh0 0 s.ns3) t1.1) (sl (!t3) (sl (Nat.beq s.ns3 (len s.eh0) && Nat.ble ((s.ns3 + 1) * 32) room) (k ⟨1, (W (s.is6 + 1)), (s.ns3 + 1), (app s.eh0 [[(i t1.1.px), (i t1.1.py), (i t1.1.pz), (i t1.1.pw)]])⟩) z) (k ⟨1, (W (s.is6 + 1)), s.ns3, s.eh0⟩)) z) z) (k ⟨1, (W (s.is6 + 1)), s.ns3, s.eh0⟩)) z) z) (k ⟨1, (W (s.is6 + 1)), s.ns3, s.eh0⟩)) z) z) z) z) (e 2))
noncomputable def M4 (p : K6) (s : p8) : Stp p8 := (sel (Nat.beq s.ph 1) (O9 .next .exit .fail p s) (O8 .next .exit .fail p s))
noncomputable def Ra7 : Lo K6 p8 := ⟨En Fa1, 0, be8, [1, 1, 0, 1, 4, 4, 1, 0, 4, 1, 4, 4, 1, 0, 4, 1, 4, 4], [0, 3, 4, 5, 6], .p, [⟨((.s (.c 4 (nL tP))) :: ((.s (.o .unk)) :: ((.s (.o .unk)) :: ((.s (.o .nil)) :: ((.s (.o (.int .i64))) :: ((.s (.o (.int .i64))) :: ((.s (.o (.int .i64))) :: (ru2 57 [])))))))), [], fun a H => (⟨(rL tP (slT a 0)), (toI (slT a 4)), (toI (slT a 5))⟩, ⟨0, (toI (slT a 6)), 0, []⟩)⟩, ⟨((.s (.c 4 (nL tP))) :: ((.s (.o .unk)) :: ((.s (.o .unk)) :: ((.s (.o (.sl 0 0 (some 0) none))) :: ((.s (.o (.int .i64))) :: ((.s (.o (.int .i64))) :: ((.s (.o (.int .i64))) :: (ru2 57 [])))))))), [⟨54, 4, true, none⟩], fun a H => (⟨(rL tP (slT a 0)), (toI (slT a 4)), (toI (slT a 5))⟩, ⟨1, (toI (slT a 6)), (slN (slT a 3)), (elT H 0)⟩)⟩], M4, [(some 4, fun p s => ⟨((eL tP p.c9) :: (.unk :: (.unk :: ((.v (.slice none 0 0)) :: ((i p.is4) :: ((i p.is5) :: ((i s.is6) :: (ra 18 ((i s.is6) :: ((eL tP p.c9) :: ((i (↑(List.length p.c9) : Int)) :: ((b (decide (s.is6 < (↑(List.length p.c9) : Int)))) :: (ra 35 []))))))))))))), []⟩), (some 4, fun p s => ⟨((eL tP p.c9) :: (.unk :: (.unk :: ((.sl 0 0 s.ns3 0) :: ((i p.is4) :: ((i p.is5) :: ((i s.is6) :: (ra 18 ((i s.is6) :: ((eL tP p.c9) :: ((i (↑(List.length p.c9) : Int)) :: ((b (decide (s.is6 < (↑(List.length p.c9) : Int)))) :: (ra 35 []))))))))))))), [⟨54, 4, s.eh0, true, false, 0⟩]⟩)], ac9⟩
theorem bc0 : Ra7.Ok := Lo.ok [] (by kernel_rfl) .nil rfl (.cons (fun a H => by kernel_rfl) (.cons (fun a H => by kernel_rfl) .nil)) fun p s => (.sel (Nat.beq s.ph 1) (.of @O9 (fun F _ _ _ _ _ => by unfold O9; (repeat' apply n7 (f := F)) <;> rfl) (by kernel_rfl)) (.of @O8 (fun F _ _ _ _ _ => by unfold O8; (repeat' apply n7 (f := F)) <;> rfl) (by kernel_rfl)))
structure K7 where
 is4 : Int
structure q9 where
 ph : Nat
 c9 : List Pln
 is5 : Int
 ns3 : Nat
 eh0 : List (List b7)
noncomputable def Tb4 (p : K7) (s : q9) : St := ⟨((eL tP s.c9) :: (.unk :: (.unk :: ((.v (.slice none 0 0)) :: ((i p.is4) :: ((i s.is5) :: (ra 58 []))))))), []⟩
noncomputable def Tb5 (p : K7) (s : q9) : St := ⟨((eL tP s.c9) :: (.unk :: (.unk :: ((.sl 0 0 s.ns3 0) :: ((i p.is4) :: ((i s.is5) :: (ra 58 []))))))), [⟨54, 4, s.eh0, true, false, 0⟩]⟩
noncomputable def bc1 (p : K7) (s : q9) : St := (sel (Nat.beq s.ph 1) (Tb5 p s) (Tb4 p s))
noncomputable def P0 {α : Type} (k : q9 → α) (e : Nat → α) (z : α) (p : K7) (s : q9) : α := let t1 := (lp (M4 (⟨(rt tP s.c9), p.is4, s.is5⟩ : K6)) (⟨0, (W (s.is5 + 1)), 0, []⟩ : p8)); (sl (decide (s.is5 < (↑(List.length s.c9) : Int))) (sl ((cnE tP s.c9) && true) (sl (Nat.beq t1.1 1) (k ⟨0, (rt tP s.c9), (W (s.is5 + 1)), 0, []⟩) (sl (Nat.beq t1.1 2) (k ⟨1, (rt tP s.c9), (W (s.is5 + 1)), t1.2.ns3, t1.2.eh0⟩) z)) z) (e 1))
noncomputable def P1 {α : Type} (k : q9 → α) (e : Nat → α) (z : α) (p : K7) (s : q9) : α := let t1 := (lp (M4 (⟨(rt tP s.c9), p.is4, s.is5⟩ : K6)) (⟨1, (W (s.is5 + 1)), s.ns3, s.eh0⟩ : p8)); (sl (decide (s.is5 < (↑(List.length s.c9) : Int))) (sl ((cnE tP s.c9) && true) (sl (Nat.beq t1.1 1) (k ⟨0, (rt tP s.c9), (W (s.is5 + 1)), 0, []⟩) (sl (Nat.beq t1.1 2) (k ⟨1, (rt tP s.c9), (W (s.is5 + 1)), t1.2.ns3, t1.2.eh0⟩) z)) z) (e 2))
noncomputable def I7 (p : K7) (s : q9) : Stp q9 := (sel (Nat.beq s.ph 1) (P1 .next .exit .fail p s) (P0 .next .exit .fail p s))
noncomputable def Ra8 : Lo K7 q9 := ⟨En Fa1, 0, be8, [1, 1, 0, 1, 4, 4, 1, 0, 4, 1, 4, 4], [0, 3, 4, 5], (.s .p (.s (.b (.s .p (.b (.u Ra7.ls)))) .p)), [⟨((.s (.c 4 (nL tP))) :: ((.s (.o .unk)) :: ((.s (.o .unk)) :: ((.s (.o .nil)) :: ((.s (.o (.int .i64))) :: ((.s (.o (.int .i64))) :: (ru2 58 []))))))), [], fun a H => (⟨(toI (slT a 4))⟩, ⟨0, (rL tP (slT a 0)), (toI (slT a 5)), 0, []⟩)⟩, ⟨((.s (.c 4 (nL tP))) :: ((.s (.o .unk)) :: ((.s (.o .unk)) :: ((.s (.o (.sl 0 0 (some 0) none))) :: ((.s (.o (.int .i64))) :: ((.s (.o (.int .i64))) :: (ru2 58 []))))))), [⟨54, 4, true, none⟩], fun a H => (⟨(toI (slT a 4))⟩, ⟨1, (rL tP (slT a 0)), (toI (slT a 5)), (slN (slT a 3)), (elT H 0)⟩)⟩], I7, [(some 2, fun p s => ⟨((eL tP s.c9) :: (.unk :: (.unk :: ((.v (.slice none 0 0)) :: ((i p.is4) :: ((i s.is5) :: (ra 11 ((i s.is5) :: ((eL tP s.c9) :: ((i (↑(List.length s.c9) : Int)) :: ((b (decide (s.is5 < (↑(List.length s.c9) : Int)))) :: (ra 43 [])))))))))))), []⟩), (some 2, fun p s => ⟨((eL tP s.c9) :: (.unk :: (.unk :: ((.sl 0 0 s.ns3 0) :: ((i p.is4) :: ((i s.is5) :: (ra 11 ((i s.is5) :: ((eL tP s.c9) :: ((i (↑(List.length s.c9) : Int)) :: ((b (decide (s.is5 < (↑(List.length s.c9) : Int)))) :: (ra 43 [])))))))))))), [⟨54, 4, s.eh0, true, false, 0⟩]⟩)], bc1⟩
theorem bc2 : Ra8.Ok := Lo.ok [Ra7.pr] (by kernel_rfl) (.cons bc0 .nil) rfl (.cons (fun a H => by kernel_rfl) (.cons (fun a H => by kernel_rfl) .nil)) fun p s => (.sel (Nat.beq s.ph 1) (.of @P1 (fun F _ _ _ _ _ => by unfold P1; (repeat' apply n7 (f := F)) <;> rfl) (by kernel_rfl)) (.of @P0 (fun F _ _ _ _ _ => by unfold P0; (repeat' apply n7 (f := F)) <;> rfl) (by kernel_rfl)))
structure Q9 where
structure y9 where
 ph : Nat
 c9 : List Pln
 is4 : Int
 ns3 : Nat
 eh0 : List (List b7)
noncomputable def Tb6 (p : Q9) (s : y9) : St := ⟨((eL tP s.c9) :: (.unk :: (.unk :: ((.v (.slice none 0 0)) :: ((i s.is4) :: (ra 59 [])))))), []⟩
noncomputable def Tb7 (p : Q9) (s : y9) : St := ⟨((eL tP s.c9) :: (.unk :: (.unk :: ((.sl 0 0 s.ns3 0) :: ((i s.is4) :: (ra 59 [])))))), [⟨54, 4, s.eh0, true, false, 0⟩]⟩
noncomputable def bc3 (p : Q9) (s : y9) : St := (sel (Nat.beq s.ph 1) (Tb7 p s) (Tb6 p s))
noncomputable def P4 {α : Type} (k : y9 → α) (e : Nat → α) (z : α) (p : Q9) (s : y9) : α := let t1 := (lp (I7 (⟨s.is4⟩ : K7)) (⟨0, (rt tP s.c9), (W (s.is4 + 1)), 0, []⟩ : q9)); (sl (decide (s.is4 < (↑(List.length s.c9) : Int))) (sl ((cnE tP s.c9) && true) (sl (Nat.beq t1.1 1) (k ⟨0, t1.2.c9, (W (s.is4 + 1)), 0, []⟩) (sl (Nat.beq t1.1 2) (k ⟨1, t1.2.c9, (W (s.is4 + 1)), t1.2.ns3, t1.2.eh0⟩) z)) z) (e 1))
noncomputable def P5 {α : Type} (k : y9 → α) (e : Nat → α) (z : α) (p : Q9) (s : y9) : α := let t1 := (lp (I7 (⟨s.is4⟩ : K7)) (⟨1, (rt tP s.c9), (W (s.is4 + 1)), s.ns3, s.eh0⟩ : q9)); (sl (decide (s.is4 < (↑(List.length s.c9) : Int))) (sl ((cnE tP s.c9) && true) (sl (Nat.beq t1.1 1) (k ⟨0, t1.2.c9, (W (s.is4 + 1)), 0, []⟩) (sl (Nat.beq t1.1 2) (k ⟨1, t1.2.c9, (W (s.is4 + 1)), t1.2.ns3, t1.2.eh0⟩) z)) z) (e 2))
noncomputable def M5 (p : Q9) (s : y9) : Stp y9 := (sel (Nat.beq s.ph 1) (P5 .next .exit .fail p s) (P4 .next .exit .fail p s))
noncomputable def Ra9 : Lo Q9 y9 := ⟨En Fa1, 0, be8, [1, 1, 0, 1, 4, 4], [0, 3, 4], (.s .p (.s (.b (.s .p (.b (.u Ra8.ls)))) .p)), [⟨((.s (.c 4 (nL tP))) :: ((.s (.o .unk)) :: ((.s (.o .unk)) :: ((.s (.o .nil)) :: ((.s (.o (.int .i64))) :: (ru2 59 [])))))), [], fun a H => (⟨⟩, ⟨0, (rL tP (slT a 0)), (toI (slT a 4)), 0, []⟩)⟩, ⟨((.s (.c 4 (nL tP))) :: ((.s (.o .unk)) :: ((.s (.o .unk)) :: ((.s (.o (.sl 0 0 (some 0) none))) :: ((.s (.o (.int .i64))) :: (ru2 59 [])))))), [⟨54, 4, true, none⟩], fun a H => (⟨⟩, ⟨1, (rL tP (slT a 0)), (toI (slT a 4)), (slN (slT a 3)), (elT H 0)⟩)⟩], M5, [(some 0, fun p s => ⟨((eL tP s.c9) :: (.unk :: (.unk :: ((.v (.slice none 0 0)) :: ((i s.is4) :: (ra 4 ((i s.is4) :: ((eL tP s.c9) :: ((i (↑(List.length s.c9) : Int)) :: ((b (decide (s.is4 < (↑(List.length s.c9) : Int)))) :: (ra 51 []))))))))))), []⟩), (some 0, fun p s => ⟨((eL tP s.c9) :: (.unk :: (.unk :: ((.sl 0 0 s.ns3 0) :: ((i s.is4) :: (ra 4 ((i s.is4) :: ((eL tP s.c9) :: ((i (↑(List.length s.c9) : Int)) :: ((b (decide (s.is4 < (↑(List.length s.c9) : Int)))) :: (ra 51 []))))))))))), [⟨54, 4, s.eh0, true, false, 0⟩]⟩)], bc3⟩
theorem bc4 : Ra9.Ok := Lo.ok [Ra8.pr] (by kernel_rfl) (.cons bc2 .nil) rfl (.cons (fun a H => by kernel_rfl) (.cons (fun a H => by kernel_rfl) .nil)) fun p s => (.sel (Nat.beq s.ph 1) (.of @P5 (fun F _ _ _ _ _ => by unfold P5; (repeat' apply n7 (f := F)) <;> rfl) (by kernel_rfl)) (.of @P4 (fun F _ _ _ _ _ => by unfold P4; (repeat' apply n7 (f := F)) <;> rfl) (by kernel_rfl)))
noncomputable def xa8 (x : List Pln) : Option (b7 × List b8) := let t1 := (lp (M5 (⟨⟩ : Q9)) (⟨0, (rt tP x), 0, 0, []⟩ : y9)); (sl ((cnE tP x) && true) (sl (Nat.beq t1.1 1) (some ((.v (.slice none 0 0)), [])) (sl (Nat.beq t1.1 2) (some ((.sl 0 0 t1.2.ns3 0), [⟨54, 4, t1.2.eh0, true, false, 0⟩])) none)) none)
noncomputable def Ma5 (x : List Pln) : List Pt := O4 (one (r1L tX)) (xa8 x)
noncomputable def Ma6 (x : List Pln) : Bool := okO (one (r1L tX)) (xa8 x)
noncomputable def Kb0 : Sum := ia6 (ga9 tP) (fun x => .guard (Ma6 x) (.ret ((one (r1L tX)).enc (Ma5 x), [])))
theorem uc2 : j7 prog G 90 Kb0 := Ba4 (bd b90 jc6) (one (r1L tX)) (o := xa8) fun x => Ba5 (.s .p (.s .p (.s (.s .p (.b (.u Ra9.ls))) .p))) [Ra9.pr] (by kernel_rfl) (.cons bc4 .nil) (by kernel_rfl)
noncomputable def gb8 : List (Nat × Sum) := []
theorem Nb0 : l5 prog G gb8 := trivial
@[reducible] noncomputable def va6 : Sum := l4 (En gb8) je3
theorem Fa2 : j7 prog G 166 va6 := bd Ke2 Nb0
noncomputable def jc7 : List (Nat × Sum) := []
theorem bc5 : l5 prog G jc7 := trivial
noncomputable def sa7 (x : Int) : Option (b7 × List b8) := (sl (decide (x < 0)) (some ((i (W (0 - x))), [])) (some ((i x), [])))
noncomputable def ka4 (x : Int) : Int := O4 (one r1I) (sa7 x)
noncomputable def ka5 (x : Int) : Bool := okO (one r1I) (sa7 x)
noncomputable def Ab7 : Sum := ia6 cI (fun x => .guard (ka5 x) (.ret ((one r1I).enc (ka4 x), [])))
theorem jc8 : j7 prog G 215 Ab7 := Ba4 (bd Me3 bc5) (one r1I) (o := sa7) fun x => s9 (by kernel_rfl)
noncomputable def gc7 : List (Nat × Sum) := [(215, Ab7), (166, va6)]
theorem Sc2 : l5 prog G gc7 := ⟨jc8, Fa2, trivial⟩
structure ha0 where
 is6 : Int
 f9 : Int
 c7 : Int
 g7 : Int
 ba7 : Int
 ba8 : Int
 ba9 : Int
structure P6 where
 is5 : Int
 is7 : Int
noncomputable def Dc2 (p : ha0) (s : P6) : St := ⟨(.unk :: ((.ptr 0 0 0 0) :: ((.ptr 1 0 0 0) :: (.unk :: ((.ptr 2 0 0 0) :: ((i s.is5) :: ((i p.is6) :: ((i s.is7) :: (ra 38 []))))))))), [⟨0, 3, [[(i p.f9), (i p.c7), (i p.g7)]], true, false, 0⟩, ⟨0, 3, [[(i 0), (i 0), (i 0)]], true, false, 0⟩, ⟨0, 3, [[(i p.ba7), (i p.ba8), (i p.ba9)]], true, false, 0⟩]⟩
noncomputable def sa8 {α : Type} (k : P6 → α) (e : Nat → α) (z : α) (p : ha0) (s : P6) : α := (sl (decide (s.is7 > 0)) (sl (s.is7 == 0) z (k ⟨s.is7, (Int.tmod s.is5 s.is7)⟩)) (e 1))
noncomputable def ca2 (p : ha0) (s : P6) : Stp P6 := sa8 .next .exit .fail p s
noncomputable def qb5 : Lo ha0 P6 := ⟨En gc7, 0, je4, [1, 1, 1, 0, 1, 4, 4, 1, 0, 4, 1, 1, 4, 4], [1, 2, 4, 5, 6, 7], .p, [⟨((.s (.o .unk)) :: ((.s (.o (.ptr 0 0 0 0))) :: ((.s (.o (.ptr 1 0 0 0))) :: ((.s (.o .unk)) :: ((.s (.o (.ptr 2 0 0 0))) :: ((.s (.o (.int .i64))) :: ((.s (.o (.int .i64))) :: ((.s (.o (.int .i64))) :: (ru2 38 []))))))))), [⟨0, 3, true, (some [[(.o (.int .i64)), (.o (.int .i64)), (.o (.int .i64))]])⟩, ⟨0, 3, true, (some [[(.o (.lit .i64 0)), (.o (.lit .i64 0)), (.o (.lit .i64 0))]])⟩, ⟨0, 3, true, (some [[(.o (.int .i64)), (.o (.int .i64)), (.o (.int .i64))]])⟩], fun a H => (⟨(toI (slT a 6)), (toI (slT (rwT (elT H 0) 0) 0)), (toI (slT (rwT (elT H 0) 0) 1)), (toI (slT (rwT (elT H 0) 0) 2)), (toI (slT (rwT (elT H 2) 0) 0)), (toI (slT (rwT (elT H 2) 0) 1)), (toI (slT (rwT (elT H 2) 0) 2))⟩, ⟨(toI (slT a 5)), (toI (slT a 7))⟩)⟩], ca2, [(some 2, fun p s => ⟨(.unk :: ((.ptr 0 0 0 0) :: ((.ptr 1 0 0 0) :: (.unk :: ((.ptr 2 0 0 0) :: ((i s.is5) :: ((i p.is6) :: ((i s.is7) :: (ra 15 ((i s.is7) :: ((b (decide (s.is7 > 0))) :: (ra 21 [])))))))))))), [⟨0, 3, [[(i p.f9), (i p.c7), (i p.g7)]], true, false, 0⟩, ⟨0, 3, [[(i 0), (i 0), (i 0)]], true, false, 0⟩, ⟨0, 3, [[(i p.ba7), (i p.ba8), (i p.ba9)]], true, false, 0⟩]⟩)], Dc2⟩
theorem Dc3 : qb5.Ok := Lo.ok [] (by kernel_rfl) .nil rfl (.cons (fun a H => by kernel_rfl) .nil) fun p s => (.of @sa8 (fun F _ _ _ _ _ => by unfold sa8; (repeat' apply n7 (f := F)) <;> rfl) (by kernel_rfl))
noncomputable def Za9 (x : V3) : Option (b7 × List b8) := let t1 := (ka4 x.x); let t2 := (lp (ca2 (⟨0, x.x, x.y, x.z, x.x, x.y, x.z⟩ : ha0)) (⟨0, t1⟩ : P6)); let t3 := (ka4 x.y); let t4 := (lp (ca2 (⟨1, x.x, x.y, x.z, x.x, x.y, x.z⟩ : ha0)) (⟨t2.2.is5, t3⟩ : P6)); let t5 := (ka4 x.z); let t6 := (lp (ca2 (⟨2, x.x, x.y, x.z, x.x, x.y, x.z⟩ : ha0)) (⟨t4.2.is5, t5⟩ : P6)); (sl (x.x == (-9223372036854775808)) (some ((.tup [(.agg [(i 0), (i 0), (i 0)]), (i 0)]), [])) (sl (ka5 x.x) (sl (Nat.beq t2.1 1) (sl (x.y == (-9223372036854775808)) (some ((.tup [(.agg [(i 0), (i 0), (i 0)]), (i 0)]), [])) (sl (ka5 x.y) (sl (Nat.beq t4.1 1) (sl (x.z == (-9223372036854775808)) (some ((.tup [(.agg [(i 0), (i 0), (i 0)]), (i 0)]), [])) (sl (ka5 x.z) (sl (Nat.beq t6.1 1) (sl (t6.2.is5 == 0) (some ((.tup [(.agg [(i 0), (i 0), (i 0)]), (i 0)]), [])) (sl (t6.2.is5 == 0) none (sl (t6.2.is5 == 0) none (sl (t6.2.is5 == 0) none (some ((.tup [(.agg [(i (W (Int.tdiv x.x t6.2.is5))), (i (W (Int.tdiv x.y t6.2.is5))), (i (W (Int.tdiv x.z t6.2.is5)))]), (i t6.2.is5)]), [])))))) none) none)) none) none)) none) none))
noncomputable def Ba6 (x : V3) : V3 × Int := O4 (two r1V r1I) (Za9 x)
noncomputable def ab0 (x : V3) : Bool := okO (two r1V r1I) (Za9 x)
noncomputable def Nb1 : Sum := ia6 (V6 tV) (fun x => .guard (ab0 x) (.ret ((two r1V r1I).enc (Ba6 x), [])))
theorem gc8 : j7 prog G 167 Nb1 := Ba4 (bd Ke3 Sc2) (two r1V r1I) (o := Za9) fun x => Ba5 (.s .p (.s .p (.s .p (.s (.s .p (.b (.l (.s .p (.s (.b (.s .p (.s .p (.b (.u qb5.ls))))) .p))))) .p)))) [qb5.pr] (by kernel_rfl) (.cons Dc3 .nil) (by kernel_rfl)
noncomputable def Sc3 : List (Nat × Sum) := [(167, Nb1), (166, va6)]
theorem Dc4 : l5 prog G Sc3 := ⟨gc8, Fa2, trivial⟩
noncomputable def Oa2 (x : Pln) : Option (b7 × List b8) := let t1 := (Ba6 x.n); (sl (decide (x.n.x < (-4608))) (some ((b false), [])) (sl (decide (x.n.x > 4608)) (some ((b false), [])) (sl (decide (x.n.y < (-4608))) (some ((b false), [])) (sl (decide (x.n.y > 4608)) (some ((b false), [])) (sl (decide (x.n.z < (-4608))) (some ((b false), [])) (sl (decide (x.n.z > 4608)) (some ((b false), [])) (sl (ab0 x.n) (sl (t1.2 == 1) (sl (decide (x.b ≥ (-2097152))) (some ((b (decide (x.b ≤ 2097152))), [])) (some ((b false), []))) (some ((b false), []))) none)))))))
noncomputable def Oa3 (x : Pln) : Bool := O4 (one r1B) (Oa2 x)
noncomputable def Oa4 (x : Pln) : Bool := okO (one r1B) (Oa2 x)
noncomputable def Ab8 : Sum := ia6 (V6 tP) (fun x => .guard (Oa4 x) (.ret ((one r1B).enc (Oa3 x), [])))
theorem Tb8 : j7 prog G 86 Ab8 := Ba4 (bd b86 Dc4) (one r1B) (o := Oa2) fun x => s9 (by kernel_rfl)
noncomputable def Tb9 : List (Nat × Sum) := [(86, Ab8)]
theorem Dc5 : l5 prog G Tb9 := ⟨Tb8, trivial⟩
structure xa9 where
 c9 : List Pln
structure U2 where
 is3 : Int
noncomputable def uc3 (p : xa9) (s : U2) : St := ⟨((eL tP p.c9) :: (.unk :: (.unk :: ((i s.is3) :: (ra 15 []))))), []⟩
noncomputable def oa4 {α : Type} (k : U2 → α) (e : Nat → α) (z : α) (p : xa9) (s : U2) : α := let t1 := (Oa3 (gL tP p.c9 s.is3.toNat)); (sl (decide (s.is3 < (↑(List.length p.c9) : Int))) (sl (inB s.is3 (List.length p.c9)) (sl (Oa4 (gL tP p.c9 s.is3.toNat)) (sl (!t1) (e 1) (k ⟨(W (s.is3 + 1))⟩)) z) z) (e 2))
noncomputable def sa9 (p : xa9) (s : U2) : Stp U2 := oa4 .next .exit .fail p s
noncomputable def ib8 : Lo xa9 U2 := ⟨En Tb9, 0, xe3, [1, 1, 0, 1, 4, 4], [0, 3], .p, [⟨((.s (.c 4 (nL tP))) :: ((.s (.o .unk)) :: ((.s (.o .unk)) :: ((.s (.o (.int .i64))) :: (ru2 15 []))))), [], fun a H => (⟨(rL tP (slT a 0))⟩, ⟨(toI (slT a 3))⟩)⟩], sa9, [(none, fun p s => ⟨[(i 12)], []⟩), (some 0, fun p s => ⟨((eL tP p.c9) :: (.unk :: (.unk :: ((i s.is3) :: (ra 3 ((i s.is3) :: ((eL tP p.c9) :: ((i (↑(List.length p.c9) : Int)) :: ((b (decide (s.is3 < (↑(List.length p.c9) : Int)))) :: (ra 8 [])))))))))), []⟩)], uc3⟩
theorem uc4 : ib8.Ok := Lo.ok [] (by kernel_rfl) .nil rfl (.cons (fun a H => by kernel_rfl) .nil) fun p s => (.of @oa4 (fun F _ _ _ _ _ => by unfold oa4; (repeat' apply n7 (f := F)) <;> rfl) (by kernel_rfl))
noncomputable def Oa5 (x : List Pln) : Option (b7 × List b8) := let t1 := (lp (sa9 (⟨(rt tP x)⟩ : xa9)) (⟨0⟩ : U2)); (sl (decide ((↑(List.length x) : Int) > 48)) (some ((i 2), [])) (sl ((cnE tP x) && true) (sl (Nat.beq t1.1 1) (some ((i 12), [])) (sl (Nat.beq t1.1 2) (some ((i 0), [])) none)) none))
noncomputable def gb9 (x : List Pln) : Int := O4 (one r1I) (Oa5 x)
noncomputable def hb5 (x : List Pln) : Bool := okO (one r1I) (Oa5 x)
noncomputable def gc9 : Sum := ia6 (ga9 tP) (fun x => .guard (hb5 x) (.ret ((one r1I).enc (gb9 x), [])))
theorem Sc4 : j7 prog G 16 gc9 := Ba4 (bd b16 Dc5) (one r1I) (o := Oa5) fun x => Ba5 (.s .p (.s .p (.s (.s .p (.b (.u ib8.ls))) .p))) [ib8.pr] (by kernel_rfl) (.cons uc4 .nil) (by kernel_rfl)
noncomputable def rd9 : List (Nat × Sum) := []
theorem fd2 : l5 prog G rd9 := trivial
noncomputable def Fb9 (x : V3) (y : V3) : Option (b7 × List b8) := (some ((.sl 0 0 6 0), [⟨50, 4, [[(i 1), (i 0), (i 0), (i y.x)], [(i (-1)), (i 0), (i 0), (i (W (0 - x.x)))], [(i 0), (i 1), (i 0), (i y.y)], [(i 0), (i (-1)), (i 0), (i (W (0 - x.y)))], [(i 0), (i 0), (i 1), (i y.z)], [(i 0), (i 0), (i (-1)), (i (W (0 - x.z)))]], true, false, 0⟩]))
noncomputable def mb5 (x : V3) (y : V3) : List Pln := O4 (one (r1L tP)) (Fb9 x y)
noncomputable def Xa7 (x : V3) (y : V3) : Bool := okO (one (r1L tP)) (Fb9 x y)
noncomputable def bc6 : Sum := ja9 (V6 tV) (V6 tV) (fun x y => .guard (Xa7 x y) (.ret ((one (r1L tP)).enc (mb5 x y), [])))
theorem uc5 : j7 prog G 111 bc6 := lb8 (bd Be0 fd2) (one (r1L tP)) (o := Fb9) fun x y => s9 (by kernel_rfl)
noncomputable def sd0 : List (Nat × Sum) := [(111, bc6)]
theorem fd3 : l5 prog G sd0 := ⟨uc5, trivial⟩
noncomputable def mb6 (x : List Pln) : Option (b7 × List b8) := let t1 := (mb5 (⟨(-24), (-24), (-24)⟩ : V3) (⟨24, 24, 24⟩ : V3)); (sl (Nat.beq (len (o7 (fun k => (tP).row (gL tP x k)) (List.range (List.length x)))) 0) (sl (Xa7 (⟨(-24), (-24), (-24)⟩ : V3) (⟨24, 24, 24⟩ : V3)) (sl (Nat.beq (len (o7 (fun k => (tP).row (gL tP t1 k)) (List.range (List.length t1)))) 0) (some ((.sl 0 0 0 0), [⟨50, 4, [], true, false, 0⟩])) (sl (Nat.beq 0 0 && Nat.ble ((0 + (len (o7 (fun k => (tP).row (gL tP t1 k)) (List.range (List.length t1))))) * 32) room) (some ((.sl 0 0 (0 + (len (o7 (fun k => (tP).row (gL tP t1 k)) (List.range (List.length t1))))) 0), [⟨50, 4, (app [] (o7 (fun k => (tP).row (gL tP t1 k)) (List.range (List.length t1)))), true, false, 0⟩])) none)) none) (sl (Nat.beq 0 0 && Nat.ble ((0 + (len (o7 (fun k => (tP).row (gL tP x k)) (List.range (List.length x))))) * 32) room) (sl (Xa7 (⟨(-24), (-24), (-24)⟩ : V3) (⟨24, 24, 24⟩ : V3)) (sl (Nat.beq (len (o7 (fun k => (tP).row (gL tP t1 k)) (List.range (List.length t1)))) 0) (some ((.sl 0 0 (0 + (len (o7 (fun k => (tP).row (gL tP x k)) (List.range (List.length x))))) 0), [⟨50, 4, (app [] (o7 (fun k => (tP).row (gL tP x k)) (List.range (List.length x)))), true, false, 0⟩])) (sl (Nat.beq (0 + (len (o7 (fun k => (tP).row (gL tP x k)) (List.range (List.length x))))) (len (app [] (o7 (fun k => (tP).row (gL tP x k)) (List.range (List.length x))))) && Nat.ble (((0 + (len (o7 (fun k => (tP).row (gL tP x k)) (List.range (List.length x))))) + (len (o7 (fun k => (tP).row (gL tP t1 k)) (List.range (List.length t1))))) * 32) room) (some ((.sl 0 0 ((0 + (len (o7 (fun k => (tP).row (gL tP x k)) (List.range (List.length x))))) + (len (o7 (fun k => (tP).row (gL tP t1 k)) (List.range (List.length t1))))) 0), [⟨50, 4, (app (app [] (o7 (fun k => (tP).row (gL tP x k)) (List.range (List.length x)))) (o7 (fun k => (tP).row (gL tP t1 k)) (List.range (List.length t1)))), true, false, 0⟩])) none)) none) none))
noncomputable def Gb0 (x : List Pln) : List Pln := O4 (one (r1L tP)) (mb6 x)
noncomputable def Gb1 (x : List Pln) : Bool := okO (one (r1L tP)) (mb6 x)
noncomputable def Lc9 : Sum := ia6 (ga9 tP) (fun x => .guard (Gb1 x) (.ret ((one (r1L tP)).enc (Gb0 x), [])))
theorem sd1 : j7 prog G 91 Lc9 := Ba4 (bd b91 fd3) (one (r1L tP)) (o := mb6) fun x => s9 (by kernel_rfl)
noncomputable def Ab9 : List (Nat × Sum) := [(90, Kb0), (37, qb4)]
theorem Sc5 : l5 prog G Ab9 := ⟨uc2, Ab4, trivial⟩
structure Fa3 where
 c9 : List Pln
 Ua7 : List Pt
 is4 : Int
structure ha3 where
 bs5 : Bool
 is6 : Int
noncomputable def Dc6 (p : Fa3) (s : ha3) : St := ⟨((eL tP p.c9) :: (.unk :: (.unk :: ((eL tX p.Ua7) :: ((i p.is4) :: ((b s.bs5) :: ((i s.is6) :: (ra 29 [])))))))), []⟩
noncomputable def ta0 {α : Type} (k : ha3 → α) (e : Nat → α) (z : α) (p : Fa3) (s : ha3) : α := let t1 := (Ka1 (gL tP p.c9 p.is4.toNat) (gL tX p.Ua7 s.is6.toNat)); (sl (decide (s.is6 < (↑(List.length p.Ua7) : Int))) (sl s.bs5 (k ⟨true, (W (s.is6 + 1))⟩) (sl (inB p.is4 (List.length p.c9)) (sl (inB s.is6 (List.length p.Ua7)) (k ⟨(decide (t1 > 0)), (W (s.is6 + 1))⟩) z) z)) (e 1))
noncomputable def qa0 (p : Fa3) (s : ha3) : Stp ha3 := ta0 .next .exit .fail p s
noncomputable def qb6 : Lo Fa3 ha3 := ⟨En Ab9, 0, pe4, [1, 1, 0, 1, 4, 4, 1, 0, 4, 1, 0, 1, 4, 4], [0, 3, 4, 5, 6], .p, [⟨((.s (.c 4 (nL tP))) :: ((.s (.o .unk)) :: ((.s (.o .unk)) :: ((.s (.c 4 (nL tX))) :: ((.s (.o (.int .i64))) :: ((.s (.o .bool)) :: ((.s (.o (.int .i64))) :: (ru2 29 [])))))))), [], fun a H => (⟨(rL tP (slT a 0)), (rL tX (slT a 3)), (toI (slT a 4))⟩, ⟨(toB (slT a 5)), (toI (slT a 6))⟩)⟩], qa0, [(some 2, fun p s => ⟨((eL tP p.c9) :: (.unk :: (.unk :: ((eL tX p.Ua7) :: ((i p.is4) :: ((b s.bs5) :: ((i s.is6) :: (ra 8 ((i s.is6) :: ((eL tX p.Ua7) :: ((i (↑(List.length p.Ua7) : Int)) :: ((b (decide (s.is6 < (↑(List.length p.Ua7) : Int)))) :: (ra 17 []))))))))))))), []⟩)], Dc6⟩
theorem Dc7 : qb6.Ok := Lo.ok [] (by kernel_rfl) .nil rfl (.cons (fun a H => by kernel_rfl) .nil) fun p s => (.of @ta0 (fun F _ _ _ _ _ => by unfold ta0; (repeat' apply n7 (f := F)) <;> rfl) (by kernel_rfl))
structure Fa4 where
structure Z4 where
 c9 : List Pln
 Ua7 : List Pt
 is4 : Int
noncomputable def Dc8 (p : Fa4) (s : Z4) : St := ⟨((eL tP s.c9) :: (.unk :: (.unk :: ((eL tX s.Ua7) :: ((i s.is4) :: (ra 31 [])))))), []⟩
noncomputable def ta1 {α : Type} (k : Z4 → α) (e : Nat → α) (z : α) (p : Fa4) (s : Z4) : α := let t1 := (lp (qa0 (⟨(rt tP s.c9), (rt tX s.Ua7), s.is4⟩ : Fa3)) (⟨false, 0⟩ : ha3)); (sl (decide (s.is4 < (↑(List.length s.c9) : Int))) (sl ((cnE tP s.c9) && ((cnE tX s.Ua7) && true)) (sl (Nat.beq t1.1 1) (sl (!t1.2.bs5) (e 1) (k ⟨(rt tP s.c9), (rt tX s.Ua7), (W (s.is4 + 1))⟩)) z) z) (e 2))
noncomputable def ya0 (p : Fa4) (s : Z4) : Stp Z4 := ta1 .next .exit .fail p s
noncomputable def qb7 : Lo Fa4 Z4 := ⟨En Ab9, 0, pe4, [1, 1, 0, 1, 4, 4], [0, 3, 4], (.s .p (.s (.b (.s .p (.s (.s .p (.b (.u qb6.ls))) .p))) .p)), [⟨((.s (.c 4 (nL tP))) :: ((.s (.o .unk)) :: ((.s (.o .unk)) :: ((.s (.c 4 (nL tX))) :: ((.s (.o (.int .i64))) :: (ru2 31 [])))))), [], fun a H => (⟨⟩, ⟨(rL tP (slT a 0)), (rL tX (slT a 3)), (toI (slT a 4))⟩)⟩], ya0, [(none, fun p s => ⟨[(b false)], []⟩), (some 0, fun p s => ⟨((eL tP s.c9) :: (.unk :: (.unk :: ((eL tX s.Ua7) :: ((i s.is4) :: (ra 4 ((i s.is4) :: ((eL tP s.c9) :: ((i (↑(List.length s.c9) : Int)) :: ((b (decide (s.is4 < (↑(List.length s.c9) : Int)))) :: (ra 23 []))))))))))), []⟩)], Dc8⟩
theorem Dc9 : qb7.Ok := Lo.ok [qb6.pr] (by kernel_rfl) (.cons Dc7 .nil) rfl (.cons (fun a H => by kernel_rfl) .nil) fun p s => (.of @ta1 (fun F _ _ _ _ _ => by unfold ta1; (repeat' apply n7 (f := F)) <;> rfl) (by kernel_rfl))
noncomputable def ab1 (x : List Pln) : Option (b7 × List b8) := let t1 := (Ma5 (rt tP x)); let t2 := (lp (ya0 (⟨⟩ : Fa4)) (⟨(rt tP x), (rt tX t1), 0⟩ : Z4)); (sl (okE tP x) (sl (Ma6 (rt tP x)) (sl ((cnE tP x) && ((cnE tX t1) && true)) (sl (Nat.beq t2.1 1) (some ((b false), [])) (sl (Nat.beq t2.1 2) (some ((b true), [])) none)) none) none) none)
noncomputable def qb8 (x : List Pln) : Bool := O4 (one r1B) (ab1 x)
noncomputable def qb9 (x : List Pln) : Bool := okO (one r1B) (ab1 x)
noncomputable def uc6 : Sum := ia6 (ga9 tP) (fun x => .guard (qb9 x) (.ret ((one r1B).enc (qb8 x), [])))
theorem fd4 : j7 prog G 93 uc6 := Ba4 (bd b93 Sc5) (one r1B) (o := ab1) fun x => Ba5 (.s .p (.s .p (.s (.s .p (.b (.u qb7.ls))) .p))) [qb7.pr] (by kernel_rfl) (.cons Dc9 .nil) (by kernel_rfl)
noncomputable def fd5 : List (Nat × Sum) := [(16, gc9), (91, Lc9), (93, uc6)]
theorem Sc6 : l5 prog G fd5 := ⟨Sc4, sd1, fd4, trivial⟩
noncomputable def ab2 (x : List Pln) : Option (b7 × List b8) := let t1 := (gb9 (rt tP x)); let t2 := (Gb0 (rt tP x)); let t3 := (qb8 (rt tP t2)); (sl (okE tP x) (sl (hb5 (rt tP x)) (sl (t1 == 0) (sl (okE tP x) (sl (Gb1 (rt tP x)) (sl (okE tP t2) (sl (qb9 (rt tP t2)) (some ((b t3), [])) none) none) none) none) (some ((b false), []))) none) none)
noncomputable def Ka2 (x : List Pln) : Bool := O4 (one r1B) (ab2 x)
noncomputable def Ba7 (x : List Pln) : Bool := okO (one r1B) (ab2 x)
noncomputable def uc7 : Sum := ia6 (ga9 tP) (fun x => .guard (Ba7 x) (.ret ((one r1B).enc (Ka2 x), [])))
theorem fd6 : j7 prog G 21 uc7 := Ba4 (bd b21 Sc6) (one r1B) (o := ab2) fun x => s9 (by kernel_rfl)
noncomputable def sd2 : List (Nat × Sum) := []
theorem fd7 : l5 prog G sd2 := trivial
noncomputable def mb7 (x : Int) (y : Int) : Option (b7 × List b8) := (sl (decide (y < 1)) (some ((i 0), [])) (sl (y == 0) none (sl (y == 0) none (some ((i (Int.tmod (W ((Int.tmod x y) + y)) y)), [])))))
noncomputable def mb8 (x : Int) (y : Int) : Int := O4 (one r1I) (mb7 x y)
noncomputable def Xa8 (x : Int) (y : Int) : Bool := okO (one r1I) (mb7 x y)
noncomputable def bc7 : Sum := ja9 cI cI (fun x y => .guard (Xa8 x y) (.ret ((one r1I).enc (mb8 x y), [])))
theorem uc8 : j7 prog G 47 bc7 := lb8 (bd b47 fd7) (one r1I) (o := mb7) fun x y => s9 (by kernel_rfl)
structure Xd7 where
 Ee7 : List Pt
structure Xd8 where
 is8 : Int
 ba7 : Int
 ba8 : Int
 ba9 : Int
 Gb8 : Int
 Gb9 : Int
 Hb0 : Int
end Go.Ev.Ce
end
section
namespace Go.Ev.Ce
open Go Go.Ev Go.Ev.L Go.Proofs
set_option maxRecDepth 100000
noncomputable def Sc7 : List (Nat × Sum) := []
theorem Ec0 : l5 prog G Sc7 := trivial
noncomputable def Da2 (x : V3) (y : V3) : Int := (W ((W ((W (x.x * y.x)) + (W (x.y * y.y)))) + (W (x.z * y.z))))
noncomputable def Bb0 : Sum := ja9 (V6 tV) (V6 tV) (fun x y => .ret ((one r1I).enc (Da2 x y), []))
theorem Ub0 : j7 prog G 129 Bb0 := ra5 (bd Je6 Ec0) fun x y => s9 (by kernel_rfl)
noncomputable def Sc8 : List (Nat × Sum) := []
theorem Ec1 : l5 prog G Sc8 := trivial
noncomputable def na0 (x : V3) (y : V3) : V3 := (⟨(W (x.x + y.x)), (W (x.y + y.y)), (W (x.z + y.z))⟩ : V3)
noncomputable def hc3 : Sum := ja9 (V6 tV) (V6 tV) (fun x y => .ret ((one r1V).enc (na0 x y), []))
theorem Sc9 : j7 prog G 54 hc3 := ra5 (bd b54 Ec1) fun x y => s9 (by kernel_rfl)
noncomputable def Ec2 : List (Nat × Sum) := []
theorem uc9 : l5 prog G Ec2 := trivial
noncomputable def P7 (x : V3) (y : Int) : V3 := (⟨(W (x.x * y)), (W (x.y * y)), (W (x.z * y))⟩ : V3)
noncomputable def rb0 : Sum := ja9 (V6 tV) cI (fun x y => .ret ((one r1V).enc (P7 x y), []))
theorem Kb1 : j7 prog G 94 rb0 := ra5 (bd b94 uc9) fun x y => s9 (by kernel_rfl)
noncomputable def vc0 : List (Nat × Sum) := []
theorem jc9 : l5 prog G vc0 := trivial
noncomputable def O0 (x : V3) (y : V3) : V3 := (⟨(W ((W (x.y * y.z)) - (W (x.z * y.y)))), (W ((W (x.z * y.x)) - (W (x.x * y.z)))), (W ((W (x.x * y.y)) - (W (x.y * y.x))))⟩ : V3)
noncomputable def Kb2 : Sum := ja9 (V6 tV) (V6 tV) (fun x y => .ret ((one r1V).enc (O0 x y), []))
theorem vc1 : j7 prog G 142 Kb2 := ra5 (bd Je8 jc9) fun x y => s9 (by kernel_rfl)
noncomputable def Tc0 : List (Nat × Sum) := [(129, Bb0)]
theorem Ec3 : l5 prog G Tc0 := ⟨Ub0, trivial⟩
noncomputable def na1 (x : Pln) (y : Pt) : Int := let t1 := (Da2 x.n (⟨y.px, y.py, y.pz⟩ : V3)); (W ((W (x.b * y.pw)) - t1))
noncomputable def hb6 : Sum := ja9 (V6 tP) (V6 tX) (fun x y => .ret ((one r1I).enc (na1 x y), []))
theorem rb1 : j7 prog G 102 hb6 := ra5 (bd Ie2 Ec3) fun x y => s9 (by kernel_rfl)
noncomputable def Bb1 : List (Nat × Sum) := []
theorem Tc1 : l5 prog G Bb1 := trivial
structure va7 where
 xa2 : List Int
 is7 : Int
 is8 : Int
structure ha4 where
 is3 : Int
 is5 : Int
noncomputable def Ec4 (p : va7) (s : ha4) : St := ⟨(ra 3 ((i s.is3) :: (.unk :: ((i s.is5) :: ((eL tI p.xa2) :: ((i p.is7) :: ((i p.is8) :: (ra 14 [])))))))), []⟩
noncomputable def ta2 {α : Type} (k : ha4 → α) (e : Nat → α) (z : α) (p : va7) (s : ha4) : α := (sl (s.is5 != 0) (sl (s.is5 == 0) z (k ⟨s.is5, (Int.tmod s.is3 s.is5)⟩)) (e 1))
noncomputable def ya1 (p : va7) (s : ha4) : Stp ha4 := ta2 .next .exit .fail p s
noncomputable def rb2 : Lo va7 ha4 := ⟨En Bb1, 0, Pd3, [1, 1, 0, 1, 4, 4, 1, 1, 0, 4, 1, 4, 4], [3, 5, 6, 7, 8], .p, [⟨(ru2 3 ((.s (.o (.int .i64))) :: ((.s (.o .unk)) :: ((.s (.o (.int .i64))) :: ((.s (.c 1 (nL tI))) :: ((.s (.o (.int .i64))) :: ((.s (.o (.int .i64))) :: (ru2 14 [])))))))), [], fun a H => (⟨(rL tI (slT a 6)), (toI (slT a 7)), (toI (slT a 8))⟩, ⟨(toI (slT a 3)), (toI (slT a 5))⟩)⟩], ya1, [(some 2, fun p s => ⟨(ra 3 ((i s.is3) :: (.unk :: ((i s.is5) :: ((eL tI p.xa2) :: ((i p.is7) :: ((i p.is8) :: (ra 3 ((i s.is5) :: ((b (s.is5 != 0)) :: (ra 9 []))))))))))), []⟩)], Ec4⟩
theorem Ec5 : rb2.Ok := Lo.ok [] (by kernel_rfl) .nil rfl (.cons (fun a H => by kernel_rfl) .nil) fun p s => (.of @ta2 (fun F _ _ _ _ _ => by unfold ta2; (repeat' apply n7 (f := F)) <;> rfl) (by kernel_rfl))
structure Fa5 where
 is7 : Int
structure ha5 where
 is3 : Int
 xa2 : List Int
 is8 : Int
noncomputable def Ec6 (p : Fa5) (s : ha5) : St := ⟨(ra 3 ((i s.is3) :: (.unk :: (.unk :: ((eL tI s.xa2) :: ((i p.is7) :: ((i s.is8) :: (ra 14 [])))))))), []⟩
noncomputable def ta3 {α : Type} (k : ha5 → α) (e : Nat → α) (z : α) (p : Fa5) (s : ha5) : α := let t1 := (lp (ya1 (⟨(rt tI s.xa2), p.is7, s.is8⟩ : va7)) (⟨s.is3, (gL tI s.xa2 s.is8.toNat)⟩ : ha4)); (sl (decide (s.is8 < p.is7)) (sl (inB s.is8 (List.length s.xa2)) (sl ((cnE tI s.xa2) && true) (sl (Nat.beq t1.1 1) (k ⟨t1.2.is3, (rt tI s.xa2), (W (s.is8 + 1))⟩) z) z) z) (e 1))
noncomputable def qa1 (p : Fa5) (s : ha5) : Stp ha5 := ta3 .next .exit .fail p s
noncomputable def rb3 : Lo Fa5 ha5 := ⟨En Bb1, 0, Pd3, [1, 1, 0, 1, 4, 4], [3, 6, 7, 8], (.s .p (.s .p (.s (.b (.s .p (.b (.u rb2.ls)))) .p))), [⟨(ru2 3 ((.s (.o (.int .i64))) :: ((.s (.o .unk)) :: ((.s (.o .unk)) :: ((.s (.c 1 (nL tI))) :: ((.s (.o (.int .i64))) :: ((.s (.o (.int .i64))) :: (ru2 14 [])))))))), [], fun a H => (⟨(toI (slT a 7))⟩, ⟨(toI (slT a 3)), (rL tI (slT a 6)), (toI (slT a 8))⟩)⟩], qa1, [(some 0, fun p s => ⟨(ra 3 ((i s.is3) :: (.unk :: (.unk :: ((eL tI s.xa2) :: ((i p.is7) :: ((i s.is8) :: ((b (decide (s.is8 < p.is7))) :: (ra 13 []))))))))), []⟩)], Ec6⟩
theorem Ec7 : rb3.Ok := Lo.ok [rb2.pr] (by kernel_rfl) (.cons Ec5 .nil) rfl (.cons (fun a H => by kernel_rfl) .nil) fun p s => (.of @ta3 (fun F _ _ _ _ _ => by unfold ta3; (repeat' apply n7 (f := F)) <;> rfl) (by kernel_rfl))
noncomputable def ab3 (x : List Int) : Option (b7 × List b8) := let t1 := (lp (qa1 (⟨(↑(List.length x) : Int)⟩ : Fa5)) (⟨0, (rt tI x), 0⟩ : ha5)); (sl ((cnE tI x) && true) (sl (Nat.beq t1.1 1) (some ((i (if (W (0 - t1.2.is3)) > t1.2.is3 then (W (0 - t1.2.is3)) else t1.2.is3)), [])) none) none)
noncomputable def rb4 (x : List Int) : Int := O4 (one r1I) (ab3 x)
noncomputable def rb5 (x : List Int) : Bool := okO (one r1I) (ab3 x)
noncomputable def vc2 : Sum := ia6 (ga9 tI) (fun x => .guard (rb5 x) (.ret ((one r1I).enc (rb4 x), [])))
theorem fd8 : j7 prog G 218 vc2 := Ba4 (bd Me5 Tc1) (one r1I) (o := ab3) fun x => Ba5 (.s .p (.s .p (.s (.s .p (.b (.u rb3.ls))) .p))) [rb3.pr] (by kernel_rfl) (.cons Ec7 .nil) (by kernel_rfl)
noncomputable def Tc2 : List (Nat × Sum) := [(142, Kb2), (129, Bb0), (94, rb0), (54, hc3), (218, vc2)]
theorem Ec8 : l5 prog G Tc2 := ⟨vc1, Ub0, Kb1, Sc9, fd8, trivial⟩
noncomputable def Oa6 (x : Tp) : Option (b7 × List b8) := let t1 := (O0 x.q.n x.r.n); let t3 := (P7 t1 x.p.b); let t4 := (na0 (⟨0, 0, 0⟩ : V3) t3); let t5 := (O0 x.r.n x.p.n); let t7 := (P7 t5 x.q.b); let t8 := (na0 t4 t7); let t9 := (O0 x.p.n x.q.n); let t10 := (Da2 x.r.n t9); let t11 := (P7 t9 x.r.b); let t12 := (na0 t8 t11); let t13 := (rb4 [t12.x, t12.y, t12.z, t10]); (sl (t10 == 0) (some ((.tup [(.agg [(i 0), (i 0), (i 0), (i 0)]), (b false)]), [])) (sl (rb5 [t12.x, t12.y, t12.z, t10]) (sl (decide (t10 < 0)) (sl ((W (0 - t13)) == 0) none (sl ((W (0 - t13)) == 0) none (sl ((W (0 - t13)) == 0) none (sl ((W (0 - t13)) == 0) none (some ((.tup [(.agg [(i (W (Int.tdiv t12.x (W (0 - t13))))), (i (W (Int.tdiv t12.y (W (0 - t13))))), (i (W (Int.tdiv t12.z (W (0 - t13))))), (i (W (Int.tdiv t10 (W (0 - t13)))))]), (b true)]), [])))))) (sl (t13 == 0) none (sl (t13 == 0) none (sl (t13 == 0) none (sl (t13 == 0) none (some ((.tup [(.agg [(i (W (Int.tdiv t12.x t13))), (i (W (Int.tdiv t12.y t13))), (i (W (Int.tdiv t12.z t13))), (i (W (Int.tdiv t10 t13)))]), (b true)]), []))))))) none))
noncomputable def Oa7 (x : Tp) : Pt × Bool := O4 (two r1X r1B) (Oa6 x)
noncomputable def Oa8 (x : Tp) : Bool := okO (two r1X r1B) (Oa6 x)
noncomputable def hc5 : Sum := ia6 (V6 tY) (fun x => .guard (Oa8 x) (.ret ((two r1X r1B).enc (Oa7 x), [])))
theorem Tc3 : j7 prog G 171 hc5 := Ba4 (bd Ke6 Ec8) (two r1X r1B) (o := Oa6) fun x => s9 (by kernel_rfl)
structure za8 where
 ma5 : Int
 ma6 : Int
 ma7 : Int
 db2 : Int
 f9 : Int
 c7 : Int
 g7 : Int
 d9 : Int
noncomputable def bc8 : List (Nat × Sum) := [(102, hb6)]
theorem Ub1 : l5 prog G bc8 := ⟨rb1, trivial⟩
structure oa5 where
 bs0 : Bool
noncomputable def oa6 {α : Type} (kk : oa5 → α) (x : za8) : α := let t1 := (na1 (⟨(⟨x.ma5, x.ma6, x.ma7⟩ : V3), x.db2⟩ : Pln) (⟨x.f9, x.c7, x.g7, x.d9⟩ : Pt)); (kk ⟨(decide (t1 < 0))⟩)
noncomputable def Sa0 (x : za8) : oa5 := oa6 (fun r => r) x
noncomputable def Ka3 (x : za8) (r : oa5) : DT (b7 × List b8) := .ret ((b r.bs0), [⟨0, 4, [[(i x.f9), (i x.c7), (i x.g7), (i x.d9)]], true, false, 0⟩])
theorem kc0 {α β : Type} (F : α → β) (kk : oa5 → α) (x : za8) : F (oa6 kk x) = oa6 (fun r => F (kk r)) x := by unfold oa6; (repeat' apply n7 (f := F)) <;> rfl
noncomputable def ub3 : Sum := Ya9 ⟨[(.agg [(.o (.int .i64)), (.o (.int .i64)), (.o (.int .i64)), (.o (.int .i64))]), (.s (.o (.ptr 0 0 0 0)))], [⟨0, 4, true, (some [[(.o (.int .i64)), (.o (.int .i64)), (.o (.int .i64)), (.o (.int .i64))]])⟩], fun a H => (⟨(toI (slT (cellsOf (slT a 0)) 0)), (toI (slT (cellsOf (slT a 0)) 1)), (toI (slT (cellsOf (slT a 0)) 2)), (toI (slT (cellsOf (slT a 0)) 3)), (toI (slT (rwT (elT H 0) 0) 0)), (toI (slT (rwT (elT H 0) 0) 1)), (toI (slT (rwT (elT H 0) 0) 2)), (toI (slT (rwT (elT H 0) 0) 3))⟩, ())⟩ (fun x => Ka3 x (Sa0 x))
theorem bc9 : j7 prog G 181 ub3 := R3 (enc := fun x => ⟨[(.agg [(i x.ma5), (i x.ma6), (i x.ma7), (i x.db2)]), (.ptr 0 0 0 0)], [⟨0, 4, [[(i x.f9), (i x.c7), (i x.g7), (i x.d9)]], true, false, 0⟩]⟩) (fun a H => by kernel_rfl) (bd Le4 Ub1) fun x => s9 (Eq.trans (b := oa6 (fun r => (Ka3 x r).run) x) (by kernel_rfl) (kc0 (fun r => (Ka3 x r).run) (fun r => r) x).symm)
structure R4 where
 c9 : List Pln
 f9 : Int
 c7 : Int
 g7 : Int
 d9 : Int
noncomputable def ta4 : List (Nat × Sum) := [(181, ub3)]
theorem Va3 : l5 prog G ta4 := ⟨bc9, trivial⟩
structure G0 where
 c9 : List Pln
 is7 : Int
 f9 : Int
 c7 : Int
 g7 : Int
 d9 : Int
structure n9 where
 is8 : Int
noncomputable def Sa1 (p : G0) (s : n9) : St := ⟨((eL tP p.c9) :: ((.fn 181 [(.ptr 0 0 0 0)]) :: (ra 5 ((i p.is7) :: ((i s.is8) :: (ra 10 [])))))), [⟨0, 4, [[(i p.f9), (i p.c7), (i p.g7), (i p.d9)]], true, false, 0⟩]⟩
noncomputable def B6 {α : Type} (k : n9 → α) (e : Nat → α) (z : α) (p : G0) (s : n9) : α := let t1 := (Sa0 ⟨(gL tP p.c9 s.is8.toNat).n.x, (gL tP p.c9 s.is8.toNat).n.y, (gL tP p.c9 s.is8.toNat).n.z, (gL tP p.c9 s.is8.toNat).b, p.f9, p.c7, p.g7, p.d9⟩); (sl (decide (s.is8 < p.is7)) (sl (inB s.is8 (List.length p.c9)) (sl t1.bs0 (e 1) (k ⟨(W (s.is8 + 1))⟩)) z) (e 2))
noncomputable def D7 (p : G0) (s : n9) : Stp n9 := B6 .next .exit .fail p s
noncomputable def Z5 : Lo G0 n9 := ⟨En ta4, 1, xd7, [1, 0, 1, 4, 4], [0, 1, 7, 8], .p, [⟨((.s (.c 4 (nL tP))) :: ((.fn 181 [(.o (.ptr 0 0 0 0))]) :: (ru2 5 ((.s (.o (.int .i64))) :: ((.s (.o (.int .i64))) :: (ru2 10 [])))))), [⟨0, 4, true, (some [[(.o (.int .i64)), (.o (.int .i64)), (.o (.int .i64)), (.o (.int .i64))]])⟩], fun a H => (⟨(rL tP (slT a 0)), (toI (slT a 7)), (toI (slT (rwT (elT H 0) 0) 0)), (toI (slT (rwT (elT H 0) 0) 1)), (toI (slT (rwT (elT H 0) 0) 2)), (toI (slT (rwT (elT H 0) 0) 3))⟩, ⟨(toI (slT a 8))⟩)⟩], D7, [(none, fun p s => ⟨[(i s.is8)], [⟨0, 4, [[(i p.f9), (i p.c7), (i p.g7), (i p.d9)]], true, false, 0⟩]⟩), (some 0, fun p s => ⟨((eL tP p.c9) :: ((.fn 181 [(.ptr 0 0 0 0)]) :: (ra 5 ((i p.is7) :: ((i s.is8) :: ((b (decide (s.is8 < p.is7))) :: (ra 9 []))))))), [⟨0, 4, [[(i p.f9), (i p.c7), (i p.g7), (i p.d9)]], true, false, 0⟩]⟩)], Sa1⟩
theorem Sa2 : Z5.Ok := Lo.ok [] (by kernel_rfl) .nil rfl (.cons (fun a H => by kernel_rfl) .nil) fun p s => (.of @B6 (fun F _ _ _ _ _ => by unfold B6; (repeat' apply n7 (f := F)) <;> rfl) (by kernel_rfl))
structure R5 where
 alt : Nat
 is0 : Int
noncomputable def C6 {α : Type} (kk : R5 → α) (x : R4) : α := let t1 := (lp (D7 (⟨(rt tP x.c9), (↑(List.length x.c9) : Int), x.f9, x.c7, x.g7, x.d9⟩ : G0)) (⟨0⟩ : n9)); (sl ((cnE tP x.c9) && true) (sl (Nat.beq t1.1 1) (kk ⟨1, t1.2.is8⟩) (sl (Nat.beq t1.1 2) (kk ⟨1, (-1)⟩) (kk ⟨0, 0⟩))) (kk ⟨0, 0⟩))
noncomputable def R6 (x : R4) : R5 := C6 (fun r => r) x
noncomputable def ca9 (x : R4) (r : R5) : DT (b7 × List b8) := (.ite (Nat.beq r.alt 1) (.ret ((i r.is0), [⟨0, 4, [[(i x.f9), (i x.c7), (i x.g7), (i x.d9)]], true, false, 0⟩])) .fail)
theorem db4 {α β : Type} (F : α → β) (kk : R5 → α) (x : R4) : F (C6 kk x) = C6 (fun r => F (kk r)) x := by unfold C6; (repeat' apply n7 (f := F)) <;> rfl
noncomputable def wa4 : Sum := Ya9 ⟨[(.s (.c 4 (nL tP))), (.fn 181 [(.o (.ptr 0 0 0 0))])], [⟨0, 4, true, (some [[(.o (.int .i64)), (.o (.int .i64)), (.o (.int .i64)), (.o (.int .i64))]])⟩], fun a H => (⟨(rL tP (slT a 0)), (toI (slT (rwT (elT H 0) 0) 0)), (toI (slT (rwT (elT H 0) 0) 1)), (toI (slT (rwT (elT H 0) 0) 2)), (toI (slT (rwT (elT H 0) 0) 3))⟩, ())⟩ (fun x => ca9 x (R6 x))
theorem ab4 : j7 prog G 163 wa4 := R3 (enc := fun x => ⟨[(eL tP x.c9), (.fn 181 [(.ptr 0 0 0 0)])], [⟨0, 4, [[(i x.f9), (i x.c7), (i x.g7), (i x.d9)]], true, false, 0⟩]⟩) (fun a H => by kernel_rfl) (bd pe5 Va3) fun x => Ba5 (.s .p (.s (.s .p (.b (.u Z5.ls))) .p)) [Z5.pr] (by kernel_rfl) (.cons Sa2 .nil) (Eq.trans (b := C6 (fun r => (ca9 x r).run) x) (by kernel_rfl) (db4 (fun r => (ca9 x r).run) (fun r => r) x).symm)
structure K8 where
 c9 : List Pln
 f9 : Int
 c7 : Int
 g7 : Int
 d9 : Int
noncomputable def Oa9 : List (Nat × Sum) := [(163, wa4)]
theorem Ka4 : l5 prog G Oa9 := ⟨ab4, trivial⟩
structure K9 where
 alt : Nat
 bs0 : Bool
noncomputable def z4 {α : Type} (kk : K9 → α) (x : K8) : α := let t1 := (R6 ⟨(rt tP x.c9), x.f9, x.c7, x.g7, x.d9⟩); (sl ((cnE tP x.c9) && true) (sl (Nat.beq t1.alt 1) (kk ⟨1, (decide (t1.is0 ≥ 0))⟩) (kk ⟨0, false⟩)) (kk ⟨0, false⟩))
noncomputable def Y1 (x : K8) : K9 := z4 (fun r => r) x
noncomputable def V8 (x : K8) (r : K9) : DT (b7 × List b8) := (.ite (Nat.beq r.alt 1) (.ret ((b r.bs0), [⟨0, 4, [[(i x.f9), (i x.c7), (i x.g7), (i x.d9)]], true, false, 0⟩])) .fail)
theorem Sa3 {α β : Type} (F : α → β) (kk : K9 → α) (x : K8) : F (z4 kk x) = z4 (fun r => F (kk r)) x := by unfold z4; (repeat' apply n7 (f := F)) <;> rfl
noncomputable def oa7 : Sum := Ya9 ⟨[(.s (.c 4 (nL tP))), (.fn 181 [(.o (.ptr 0 0 0 0))])], [⟨0, 4, true, (some [[(.o (.int .i64)), (.o (.int .i64)), (.o (.int .i64)), (.o (.int .i64))]])⟩], fun a H => (⟨(rL tP (slT a 0)), (toI (slT (rwT (elT H 0) 0) 0)), (toI (slT (rwT (elT H 0) 0) 1)), (toI (slT (rwT (elT H 0) 0) 2)), (toI (slT (rwT (elT H 0) 0) 3))⟩, ())⟩ (fun x => V8 x (Y1 x))
theorem Pa0 : j7 prog G 83 oa7 := R3 (enc := fun x => ⟨[(eL tP x.c9), (.fn 181 [(.ptr 0 0 0 0)])], [⟨0, 4, [[(i x.f9), (i x.c7), (i x.g7), (i x.d9)]], true, false, 0⟩]⟩) (fun a H => by kernel_rfl) (bd b83 Ka4) fun x => s9 (Eq.trans (b := z4 (fun r => (V8 x r).run) x) (by kernel_rfl) (Sa3 (fun r => (V8 x r).run) (fun r => r) x).symm)
noncomputable def vc3 : List (Nat × Sum) := [(83, oa7)]
theorem kc1 : l5 prog G vc3 := ⟨Pa0, trivial⟩
noncomputable def ya2 (x : List Pln) (y : Pt) : Option (b7 × List b8) := let t1 := (Y1 ⟨(rt tP x), y.px, y.py, y.pz, y.pw⟩); (sl ((cnE tP x) && true) (sl (Nat.beq t1.alt 1) (some ((b (!t1.bs0)), [])) none) none)
noncomputable def U3 (x : List Pln) (y : Pt) : Bool := O4 (one r1B) (ya2 x y)
noncomputable def U4 (x : List Pln) (y : Pt) : Bool := okO (one r1B) (ya2 x y)
noncomputable def Ma7 : Sum := ja9 (ga9 tP) (V6 tX) (fun x y => .guard (U4 x y) (.ret ((one r1B).enc (U3 x y), [])))
theorem ab5 : j7 prog G 108 Ma7 := lb8 (bd Ie6 kc1) (one r1B) (o := ya2) fun x y => s9 (by kernel_rfl)
noncomputable def ya3 : List (Nat × Sum) := []
theorem db5 : l5 prog G ya3 := trivial
@[reducible] noncomputable def Da3 : Sum := l4 (En ya3) ke2
theorem ib9 : j7 prog G 217 Da3 := bd Me4 db5
noncomputable def Fa6 : List (Nat × Sum) := [(217, Da3)]
theorem mb9 : l5 prog G Fa6 := ⟨ib9, trivial⟩
@[reducible] noncomputable def Ia9 : Sum := l4 (En Fa6) je5
theorem rb6 : j7 prog G 170 Ia9 := bd Ke5 mb9
noncomputable def Z6 : List (Nat × Sum) := [(171, hc5), (108, Ma7), (170, Ia9)]
theorem nb0 : l5 prog G Z6 := ⟨Tc3, ab5, rb6, trivial⟩
structure i7 where
 is3 : Int
 N8 : List Pln
 Ia6 : Int
 T8 : Int
 Yb1 : Nat
 Xa0 : Nat → List b7
 ea6 : Int
 ma8 : Int
 ud9 : Nat
 Ua5 : Nat → List b7
 Yc0 : Int
 d8 : List Pln
 G9 : Int
 H4 : Int
 H5 : Int
 H6 : Int
 ba7 : Int
 ba8 : Int
 ba9 : Int
 Xa1 : Int
 ma9 : List Pln
structure i8 where
 ph : Nat
 pa8 : Int
 Na4 : Nat
 eh6 : List (List b7)
 eh7 : List (List b7)
noncomputable def db6 (p : i7) (s : i8) : St := ⟨(.unk :: ((.ptr 0 0 0 0) :: (.unk :: ((i p.is3) :: ((.ptr 1 0 0 0) :: (.unk :: ((.ptr 2 0 0 0) :: (.unk :: (.unk :: ((eL tP p.N8) :: ((i p.Ia6) :: ((i p.T8) :: (ra 7 ((.tree 4 p.Yb1 p.Xa0) :: ((i p.ea6) :: ((i p.ma8) :: (ra 9 ((.tree 4 p.ud9 p.Ua5) :: ((i p.Yc0) :: ((i s.pa8) :: (ra 13 ((i 0) :: (.unk :: ((.ptr 3 0 0 0) :: ((.v (.slice none 0 0)) :: ((.ptr 4 0 0 0) :: ((.ptr 5 0 0 0) :: (ra 31 [])))))))))))))))))))))))))))), [⟨0, 1, [[(eL tP p.d8)]], true, false, 0⟩, ⟨0, 4, [[(i p.G9), (i p.H4), (i p.H5), (i p.H6)]], true, false, 0⟩, ⟨0, 4, [[(i p.ba7), (i p.ba8), (i p.ba9), (i p.Xa1)]], true, false, 0⟩, ⟨0, 1, [[(eL tP p.ma9)]], true, false, 0⟩, ⟨0, 0, [[(.v (.slice none 0 0))]], true, false, 0⟩, ⟨0, 0, [[(.ptr 6 0 0 0)]], true, false, 0⟩, ⟨174, 0, [], true, false, 0⟩]⟩
noncomputable def db7 (p : i7) (s : i8) : St := ⟨(.unk :: ((.ptr 0 0 0 0) :: (.unk :: ((i p.is3) :: ((.ptr 1 0 0 0) :: (.unk :: ((.ptr 2 0 0 0) :: (.unk :: (.unk :: ((eL tP p.N8) :: ((i p.Ia6) :: ((i p.T8) :: (ra 7 ((.tree 4 p.Yb1 p.Xa0) :: ((i p.ea6) :: ((i p.ma8) :: (ra 9 ((.tree 4 p.ud9 p.Ua5) :: ((i p.Yc0) :: ((i s.pa8) :: (ra 13 ((i 0) :: (.unk :: ((.ptr 3 0 0 0) :: ((.v (.slice none 0 0)) :: ((.ptr 4 0 0 0) :: ((.ptr 5 0 0 0) :: (ra 31 [])))))))))))))))))))))))))))), [⟨0, 1, [[(eL tP p.d8)]], true, false, 0⟩, ⟨0, 4, [[(i p.G9), (i p.H4), (i p.H5), (i p.H6)]], true, false, 0⟩, ⟨0, 4, [[(i p.ba7), (i p.ba8), (i p.ba9), (i p.Xa1)]], true, false, 0⟩, ⟨0, 1, [[(eL tP p.ma9)]], true, false, 0⟩, ⟨0, 0, [[(.sl 6 0 s.Na4 0)]], true, false, 0⟩, ⟨0, 0, [[(.ptr 7 0 0 0)]], true, false, 0⟩, ⟨54, 4, s.eh6, true, false, 0⟩, ⟨174, 0, s.eh7, true, false, 0⟩]⟩
noncomputable def jb0 (p : i7) (s : i8) : St := (sel (Nat.beq s.ph 1) (db7 p s) (db6 p s))
noncomputable def w6 {α : Type} (k : i8 → α) (e : Nat → α) (z : α) (p : i7) (s : i8) : α := let t1 := (Oa7 (⟨(⟨(⟨p.G9, p.H4, p.H5⟩ : V3), p.H6⟩ : Pln), (⟨(⟨p.ba7, p.ba8, p.ba9⟩ : V3), p.Xa1⟩ : Pln), (⟨(⟨(toI (hdA (p.Ua5 s.pa8.toNat))), (toI (hdA (tlA (p.Ua5 s.pa8.toNat)))), (toI (hdA (tlA (tlA (p.Ua5 s.pa8.toNat)))))⟩ : V3), (toI (hdA (tlA (tlA (tlA (p.Ua5 s.pa8.toNat))))))⟩ : Pln)⟩ : Tp)); let t2 := (U3 (rt tP p.ma9) t1.1); (sl (decide (s.pa8 < p.Yc0)) (sl (inB s.pa8 p.ud9) (sl ((Nat.ble 4 (len (p.Ua5 s.pa8.toNat))) && (Q6 [(CK.int .i64), (CK.int .i64), (CK.int .i64), (CK.int .i64)] (p.Ua5 s.pa8.toNat))) (sl (Oa8 (⟨(⟨(⟨p.G9, p.H4, p.H5⟩ : V3), p.H6⟩ : Pln), (⟨(⟨p.ba7, p.ba8, p.ba9⟩ : V3), p.Xa1⟩ : Pln), (⟨(⟨(toI (hdA (p.Ua5 s.pa8.toNat))), (toI (hdA (tlA (p.Ua5 s.pa8.toNat)))), (toI (hdA (tlA (tlA (p.Ua5 s.pa8.toNat)))))⟩ : V3), (toI (hdA (tlA (tlA (tlA (p.Ua5 s.pa8.toNat))))))⟩ : Pln)⟩ : Tp)) (sl t1.2 (sl (!(Pb4 4 [(0, (.int .i64)), (1, (.int .i64)), (2, (.int .i64)), (3, (.int .i64))] [(i t1.1.px), (i t1.1.py), (i t1.1.pz), (i t1.1.pw)] [])) (sl (okE tP p.ma9) (sl (U4 (rt tP p.ma9) t1.1) (sl t2 (k ⟨1, (W (s.pa8 + 1)), 1, [[(i t1.1.px), (i t1.1.py), (i t1.1.pz), (i t1.1.pw)]], (ib2 [(0, (.int .i64)), (1, (.int .i64)), (2, (.int .i64)), (3, (.int .i64))] [(i t1.1.px), (i t1.1.py), (i t1.1.pz), (i t1.1.pw)] [(i t1.1.px), (i t1.1.py), (i t1.1.pz), (i t1.1.pw), (b true)] [])⟩) (k ⟨0, (W (s.pa8 + 1)), 0, [], []⟩)) z) z) (k ⟨0, (W (s.pa8 + 1)), 0, [], []⟩)) (k ⟨0, (W (s.pa8 + 1)), 0, [], []⟩)) z) z) z) (e 1))
noncomputable def w7 {α : Type} (k : i8 → α) (e : Nat → α) (z : α) (p : i7) (s : i8) : α := let t1 := (Oa7 (⟨(⟨(⟨p.G9, p.H4, p.H5⟩ : V3), p.H6⟩ : Pln), (⟨(⟨p.ba7, p.ba8, p.ba9⟩ : V3), p.Xa1⟩ : Pln), (⟨(⟨(toI (hdA (p.Ua5 s.pa8.toNat))), (toI (hdA (tlA (p.Ua5 s.pa8.toNat)))), (toI (hdA (tlA (tlA (p.Ua5 s.pa8.toNat)))))⟩ : V3), (toI (hdA (tlA (tlA (tlA (p.Ua5 s.pa8.toNat))))))⟩ : Pln)⟩ : Tp)); let t2 := (U3 (rt tP p.ma9) t1.1); (sl (decide (s.pa8 < p.Yc0)) (sl (inB s.pa8 p.ud9) (sl ((Nat.ble 4 (len (p.Ua5 s.pa8.toNat))) && (Q6 [(CK.int .i64), (CK.int .i64), (CK.int .i64), (CK.int .i64)] (p.Ua5 s.pa8.toNat))) (sl (Oa8 (⟨(⟨(⟨p.G9, p.H4, p.H5⟩ : V3), p.H6⟩ : Pln), (⟨(⟨p.ba7, p.ba8, p.ba9⟩ : V3), p.Xa1⟩ : Pln), (⟨(⟨(toI (hdA (p.Ua5 s.pa8.toNat))), (toI (hdA (tlA (p.Ua5 s.pa8.toNat)))), (toI (hdA (tlA (tlA (p.Ua5 s.pa8.toNat)))))⟩ : V3), (toI (hdA (tlA (tlA (tlA (p.Ua5 s.pa8.toNat))))))⟩ : Pln)⟩ : Tp)) (sl t1.2 (sl (!(Pb4 4 [(0, (.int .i64)), (1, (.int .i64)), (2, (.int .i64)), (3, (.int .i64))] [(i t1.1.px), (i t1.1.py), (i t1.1.pz), (i t1.1.pw)] s.eh7)) (sl (okE tP p.ma9) (sl (U4 (rt tP p.ma9) t1.1) (sl t2 (sl (Nat.beq s.Na4 (len s.eh6) && Nat.ble ((s.Na4 + 1) * 32) room) (k ⟨1, (W (s.pa8 + 1)), (s.Na4 + 1), (app s.eh6 [[(i t1.1.px), (i t1.1.py), (i t1.1.pz), (i t1.1.pw)]]), (ib2 [(0, (.int .i64)), (1, (.int .i64)), (2, (.int .i64)), (3, (.int .i64))] [(i t1.1.px), (i t1.1.py), (i t1.1.pz), (i t1.1.pw)] [(i t1.1.px), (i t1.1.py), (i t1.1.pz), (i t1.1.pw), (b true)] s.eh7)⟩) z) (k ⟨1, (W (s.pa8 + 1)), s.Na4, s.eh6, s.eh7⟩)) z) z) (k ⟨1, (W (s.pa8 + 1)), s.Na4, s.eh6, s.eh7⟩)) (k ⟨1, (W (s.pa8 + 1)), s.Na4, s.eh6, s.eh7⟩)) z) z) z) (e 2))
noncomputable def r7 (p : i7) (s : i8) : Stp i8 := (sel (Nat.beq s.ph 1) (w7 .next .exit .fail p s) (w6 .next .exit .fail p s))
noncomputable def ka6 : Lo i7 i8 := ⟨En Z6, 0, be7, [1, 1, 1, 0, 1, 4, 4, 1, 4, 4, 1, 1, 0, 4, 1, 1, 4, 4, 1, 1, 0, 4, 1, 1, 4, 4], [1, 3, 4, 6, 9, 10, 11, 19, 20, 21, 31, 32, 33, 47, 49, 50, 51, 52], .p, [⟨((.s (.o .unk)) :: ((.s (.o (.ptr 0 0 0 0))) :: ((.s (.o .unk)) :: ((.s (.o (.int .i64))) :: ((.s (.o (.ptr 1 0 0 0))) :: ((.s (.o .unk)) :: ((.s (.o (.ptr 2 0 0 0))) :: ((.s (.o .unk)) :: ((.s (.o .unk)) :: ((.s (.c 4 (nL tP))) :: ((.s (.o (.int .i64))) :: ((.s (.o (.int .i64))) :: (ru2 7 ((.s (.o (.tree 4))) :: ((.s (.o (.int .i64))) :: ((.s (.o (.int .i64))) :: (ru2 9 ((.s (.o (.tree 4))) :: ((.s (.o (.int .i64))) :: ((.s (.o (.int .i64))) :: (ru2 13 ((.s (.o (.lit .i64 0))) :: ((.s (.o .unk)) :: ((.s (.o (.ptr 3 0 0 0))) :: ((.s (.o .nil)) :: ((.s (.o (.ptr 4 0 0 0))) :: ((.s (.o (.ptr 5 0 0 0))) :: (ru2 31 [])))))))))))))))))))))))))))), [⟨0, 1, true, (some [[(.c 4 (nL tP))]])⟩, ⟨0, 4, true, (some [[(.o (.int .i64)), (.o (.int .i64)), (.o (.int .i64)), (.o (.int .i64))]])⟩, ⟨0, 4, true, (some [[(.o (.int .i64)), (.o (.int .i64)), (.o (.int .i64)), (.o (.int .i64))]])⟩, ⟨0, 1, true, (some [[(.c 4 (nL tP))]])⟩, ⟨0, 0, true, (some [[(.o .nil)]])⟩, ⟨0, 0, true, (some [[(.o (.ptr 6 0 0 0))]])⟩, ⟨174, 0, true, (some [])⟩], fun a H => (⟨(toI (slT a 3)), (rL tP (slT a 9)), (toI (slT a 10)), (toI (slT a 11)), (toN (slT a 19)), (toG (slT a 19)), (toI (slT a 20)), (toI (slT a 21)), (toN (slT a 31)), (toG (slT a 31)), (toI (slT a 32)), (rL tP (slT (rwT (elT H 0) 0) 0)), (toI (slT (rwT (elT H 1) 0) 0)), (toI (slT (rwT (elT H 1) 0) 1)), (toI (slT (rwT (elT H 1) 0) 2)), (toI (slT (rwT (elT H 1) 0) 3)), (toI (slT (rwT (elT H 2) 0) 0)), (toI (slT (rwT (elT H 2) 0) 1)), (toI (slT (rwT (elT H 2) 0) 2)), (toI (slT (rwT (elT H 2) 0) 3)), (rL tP (slT (rwT (elT H 3) 0) 0))⟩, ⟨0, (toI (slT a 33)), 0, [], []⟩)⟩, ⟨((.s (.o .unk)) :: ((.s (.o (.ptr 0 0 0 0))) :: ((.s (.o .unk)) :: ((.s (.o (.int .i64))) :: ((.s (.o (.ptr 1 0 0 0))) :: ((.s (.o .unk)) :: ((.s (.o (.ptr 2 0 0 0))) :: ((.s (.o .unk)) :: ((.s (.o .unk)) :: ((.s (.c 4 (nL tP))) :: ((.s (.o (.int .i64))) :: ((.s (.o (.int .i64))) :: (ru2 7 ((.s (.o (.tree 4))) :: ((.s (.o (.int .i64))) :: ((.s (.o (.int .i64))) :: (ru2 9 ((.s (.o (.tree 4))) :: ((.s (.o (.int .i64))) :: ((.s (.o (.int .i64))) :: (ru2 13 ((.s (.o (.lit .i64 0))) :: ((.s (.o .unk)) :: ((.s (.o (.ptr 3 0 0 0))) :: ((.s (.o .nil)) :: ((.s (.o (.ptr 4 0 0 0))) :: ((.s (.o (.ptr 5 0 0 0))) :: (ru2 31 [])))))))))))))))))))))))))))), [⟨0, 1, true, (some [[(.c 4 (nL tP))]])⟩, ⟨0, 4, true, (some [[(.o (.int .i64)), (.o (.int .i64)), (.o (.int .i64)), (.o (.int .i64))]])⟩, ⟨0, 4, true, (some [[(.o (.int .i64)), (.o (.int .i64)), (.o (.int .i64)), (.o (.int .i64))]])⟩, ⟨0, 1, true, (some [[(.c 4 (nL tP))]])⟩, ⟨0, 0, true, (some [[(.o (.sl 6 0 (some 0) none))]])⟩, ⟨0, 0, true, (some [[(.o (.ptr 7 0 0 0))]])⟩, ⟨54, 4, true, none⟩, ⟨174, 0, true, none⟩], fun a H => (⟨(toI (slT a 3)), (rL tP (slT a 9)), (toI (slT a 10)), (toI (slT a 11)), (toN (slT a 19)), (toG (slT a 19)), (toI (slT a 20)), (toI (slT a 21)), (toN (slT a 31)), (toG (slT a 31)), (toI (slT a 32)), (rL tP (slT (rwT (elT H 0) 0) 0)), (toI (slT (rwT (elT H 1) 0) 0)), (toI (slT (rwT (elT H 1) 0) 1)), (toI (slT (rwT (elT H 1) 0) 2)), (toI (slT (rwT (elT H 1) 0) 3)), (toI (slT (rwT (elT H 2) 0) 0)), (toI (slT (rwT (elT H 2) 0) 1)), (toI (slT (rwT (elT H 2) 0) 2)), (toI (slT (rwT (elT H 2) 0) 3)), (rL tP (slT (rwT (elT H 3) 0) 0))⟩, ⟨1, (toI (slT a 33)), (slN (slT (rwT (elT H 4) 0) 0)), (elT H 6), (elT H 7)⟩)⟩], r7, [(some 4, fun p s => ⟨(.unk :: ((.ptr 0 0 0 0) :: (.unk :: ((i p.is3) :: ((.ptr 1 0 0 0) :: (.unk :: ((.ptr 2 0 0 0) :: (.unk :: (.unk :: ((eL tP p.N8) :: ((i p.Ia6) :: ((i p.T8) :: (ra 7 ((.tree 4 p.Yb1 p.Xa0) :: ((i p.ea6) :: ((i p.ma8) :: (ra 9 ((.tree 4 p.ud9 p.Ua5) :: ((i p.Yc0) :: ((i s.pa8) :: ((b (decide (s.pa8 < p.Yc0))) :: (ra 12 ((i 0) :: (.unk :: ((.ptr 3 0 0 0) :: ((.v (.slice none 0 0)) :: ((.ptr 4 0 0 0) :: ((.ptr 5 0 0 0) :: (ra 31 []))))))))))))))))))))))))))))), [⟨0, 1, [[(eL tP p.d8)]], true, false, 0⟩, ⟨0, 4, [[(i p.G9), (i p.H4), (i p.H5), (i p.H6)]], true, false, 0⟩, ⟨0, 4, [[(i p.ba7), (i p.ba8), (i p.ba9), (i p.Xa1)]], true, false, 0⟩, ⟨0, 1, [[(eL tP p.ma9)]], true, false, 0⟩, ⟨0, 0, [[(.v (.slice none 0 0))]], true, false, 0⟩, ⟨0, 0, [[(.ptr 6 0 0 0)]], true, false, 0⟩, ⟨174, 0, [], true, false, 0⟩]⟩), (some 4, fun p s => ⟨(.unk :: ((.ptr 0 0 0 0) :: (.unk :: ((i p.is3) :: ((.ptr 1 0 0 0) :: (.unk :: ((.ptr 2 0 0 0) :: (.unk :: (.unk :: ((eL tP p.N8) :: ((i p.Ia6) :: ((i p.T8) :: (ra 7 ((.tree 4 p.Yb1 p.Xa0) :: ((i p.ea6) :: ((i p.ma8) :: (ra 9 ((.tree 4 p.ud9 p.Ua5) :: ((i p.Yc0) :: ((i s.pa8) :: ((b (decide (s.pa8 < p.Yc0))) :: (ra 12 ((i 0) :: (.unk :: ((.ptr 3 0 0 0) :: ((.v (.slice none 0 0)) :: ((.ptr 4 0 0 0) :: ((.ptr 5 0 0 0) :: (ra 31 []))))))))))))))))))))))))))))), [⟨0, 1, [[(eL tP p.d8)]], true, false, 0⟩, ⟨0, 4, [[(i p.G9), (i p.H4), (i p.H5), (i p.H6)]], true, false, 0⟩, ⟨0, 4, [[(i p.ba7), (i p.ba8), (i p.ba9), (i p.Xa1)]], true, false, 0⟩, ⟨0, 1, [[(eL tP p.ma9)]], true, false, 0⟩, ⟨0, 0, [[(.sl 6 0 s.Na4 0)]], true, false, 0⟩, ⟨0, 0, [[(.ptr 7 0 0 0)]], true, false, 0⟩, ⟨54, 4, s.eh6, true, false, 0⟩, ⟨174, 0, s.eh7, true, false, 0⟩]⟩)], jb0⟩
theorem jb1 : ka6.OkM := Lo.okM [] (by kernel_rfl) .nil rfl (.cons (fun a H => by kernel_rfl) (.cons (fun a H => by kernel_rfl) .nil)) fun p s => (.sel (Nat.beq s.ph 1) (.of @w7 (fun F _ _ _ _ _ => by unfold w7; (repeat' apply n7 (f := F)) <;> rfl) (by kernel_rfl)) (.of @w6 (fun F _ _ _ _ _ => by unfold w6; (repeat' apply n7 (f := F)) <;> rfl) (by kernel_rfl)))
structure i9 where
 is3 : Int
 Ia6 : Int
 T8 : Int
 Yb1 : Nat
 Xa0 : Nat → List b7
 ea6 : Int
 G9 : Int
 H4 : Int
 H5 : Int
 H6 : Int
structure j8 where
 ph : Nat
 N8 : List Pln
 ma8 : Int
 d8 : List Pln
 Q5 : List Pln
 Yb2 : Nat
 eh5 : List (List b7)
 eh6 : List (List b7)
noncomputable def db8 (p : i9) (s : j8) : St := ⟨(.unk :: ((.ptr 0 0 0 0) :: (.unk :: ((i p.is3) :: ((.ptr 1 0 0 0) :: (ra 4 ((eL tP s.N8) :: ((i p.Ia6) :: ((i p.T8) :: (ra 7 ((.tree 4 p.Yb1 p.Xa0) :: ((i p.ea6) :: ((i s.ma8) :: (ra 25 ((i 0) :: (.unk :: ((.ptr 2 0 0 0) :: ((.v (.slice none 0 0)) :: ((.ptr 3 0 0 0) :: ((.ptr 4 0 0 0) :: (ra 31 []))))))))))))))))))))), [⟨0, 1, [[(eL tP s.d8)]], true, false, 0⟩, ⟨0, 4, [[(i p.G9), (i p.H4), (i p.H5), (i p.H6)]], true, false, 0⟩, ⟨0, 1, [[(eL tP s.Q5)]], true, false, 0⟩, ⟨0, 0, [[(.v (.slice none 0 0))]], true, false, 0⟩, ⟨0, 0, [[(.ptr 5 0 0 0)]], true, false, 0⟩, ⟨174, 0, [], true, false, 0⟩]⟩
noncomputable def db9 (p : i9) (s : j8) : St := ⟨(.unk :: ((.ptr 0 0 0 0) :: (.unk :: ((i p.is3) :: ((.ptr 1 0 0 0) :: (ra 4 ((eL tP s.N8) :: ((i p.Ia6) :: ((i p.T8) :: (ra 7 ((.tree 4 p.Yb1 p.Xa0) :: ((i p.ea6) :: ((i s.ma8) :: (ra 25 ((i 0) :: (.unk :: ((.ptr 2 0 0 0) :: ((.v (.slice none 0 0)) :: ((.ptr 3 0 0 0) :: ((.ptr 4 0 0 0) :: (ra 31 []))))))))))))))))))))), [⟨0, 1, [[(eL tP s.d8)]], true, false, 0⟩, ⟨0, 4, [[(i p.G9), (i p.H4), (i p.H5), (i p.H6)]], true, false, 0⟩, ⟨0, 1, [[(eL tP s.Q5)]], true, false, 0⟩, ⟨0, 0, [[(.sl 5 0 s.Yb2 0)]], true, false, 0⟩, ⟨0, 0, [[(.ptr 6 0 0 0)]], true, false, 0⟩, ⟨54, 4, s.eh5, true, false, 0⟩, ⟨174, 0, s.eh6, true, false, 0⟩]⟩
noncomputable def jb2 (p : i9) (s : j8) : St := (sel (Nat.beq s.ph 1) (db9 p s) (db8 p s))
noncomputable def w8 {α : Type} (k : j8 → α) (e : Nat → α) (z : α) (p : i9) (s : j8) : α := let t1 := (lp (r7 (⟨p.is3, (rt tP s.N8), p.Ia6, p.T8, p.Yb1, p.Xa0, p.ea6, s.ma8, ((List.length s.d8) - (W ((W (p.is3 + s.ma8)) + 2)).toNat), (fun k => (fun k => (tP).row (gL tP s.d8 k)) ((W ((W (p.is3 + s.ma8)) + 2)).toNat + k)), (↑((List.length s.d8) - (W ((W (p.is3 + s.ma8)) + 2)).toNat) : Int), (rt tP s.d8), p.G9, p.H4, p.H5, p.H6, (toI (hdA (p.Xa0 s.ma8.toNat))), (toI (hdA (tlA (p.Xa0 s.ma8.toNat)))), (toI (hdA (tlA (tlA (p.Xa0 s.ma8.toNat))))), (toI (hdA (tlA (tlA (tlA (p.Xa0 s.ma8.toNat)))))), (rt tP s.Q5)⟩ : i7)) (⟨0, 0, 0, [], []⟩ : i8)); (sl (decide (s.ma8 < p.ea6)) (sl (inB s.ma8 p.Yb1) (sl ((Nat.ble 4 (len (p.Xa0 s.ma8.toNat))) && (Q6 [(CK.int .i64), (CK.int .i64), (CK.int .i64), (CK.int .i64)] (p.Xa0 s.ma8.toNat))) (sl (inB (W ((W (p.is3 + s.ma8)) + 2)) ((List.length s.d8) + 1)) (sl ((cnE tP s.N8) && ((cnE tP s.d8) && ((cnE tP s.Q5) && true))) (sl (Nat.beq t1.1 1) (k ⟨0, (rt tP s.N8), (W (s.ma8 + 1)), (rt tP s.d8), (rt tP s.Q5), 0, [], []⟩) (sl (Nat.beq t1.1 2) (k ⟨1, (rt tP s.N8), (W (s.ma8 + 1)), (rt tP s.d8), (rt tP s.Q5), t1.2.Na4, t1.2.eh6, t1.2.eh7⟩) z)) z) z) z) z) (e 1))
noncomputable def w9 {α : Type} (k : j8 → α) (e : Nat → α) (z : α) (p : i9) (s : j8) : α := let t1 := (lp (r7 (⟨p.is3, (rt tP s.N8), p.Ia6, p.T8, p.Yb1, p.Xa0, p.ea6, s.ma8, ((List.length s.d8) - (W ((W (p.is3 + s.ma8)) + 2)).toNat), (fun k => (fun k => (tP).row (gL tP s.d8 k)) ((W ((W (p.is3 + s.ma8)) + 2)).toNat + k)), (↑((List.length s.d8) - (W ((W (p.is3 + s.ma8)) + 2)).toNat) : Int), (rt tP s.d8), p.G9, p.H4, p.H5, p.H6, (toI (hdA (p.Xa0 s.ma8.toNat))), (toI (hdA (tlA (p.Xa0 s.ma8.toNat)))), (toI (hdA (tlA (tlA (p.Xa0 s.ma8.toNat))))), (toI (hdA (tlA (tlA (tlA (p.Xa0 s.ma8.toNat)))))), (rt tP s.Q5)⟩ : i7)) (⟨1, 0, s.Yb2, s.eh5, s.eh6⟩ : i8)); (sl (decide (s.ma8 < p.ea6)) (sl (inB s.ma8 p.Yb1) (sl ((Nat.ble 4 (len (p.Xa0 s.ma8.toNat))) && (Q6 [(CK.int .i64), (CK.int .i64), (CK.int .i64), (CK.int .i64)] (p.Xa0 s.ma8.toNat))) (sl (inB (W ((W (p.is3 + s.ma8)) + 2)) ((List.length s.d8) + 1)) (sl ((cnE tP s.N8) && ((cnE tP s.d8) && ((cnE tP s.Q5) && true))) (sl (Nat.beq t1.1 1) (k ⟨0, (rt tP s.N8), (W (s.ma8 + 1)), (rt tP s.d8), (rt tP s.Q5), 0, [], []⟩) (sl (Nat.beq t1.1 2) (k ⟨1, (rt tP s.N8), (W (s.ma8 + 1)), (rt tP s.d8), (rt tP s.Q5), t1.2.Na4, t1.2.eh6, t1.2.eh7⟩) z)) z) z) z) z) (e 2))
noncomputable def r8 (p : i9) (s : j8) : Stp j8 := (sel (Nat.beq s.ph 1) (w9 .next .exit .fail p s) (w8 .next .exit .fail p s))
noncomputable def ka7 : Lo i9 j8 := ⟨En Z6, 0, be7, [1, 1, 1, 0, 1, 4, 4, 1, 4, 4, 1, 1, 0, 4, 1, 1, 4, 4], [1, 3, 4, 9, 10, 11, 19, 20, 21, 47, 49, 50, 51, 52], (.s .p (.s .p (.s (.b (.s .p (.s .p (.b (.u ka6.lsM))))) .p))), [⟨((.s (.o .unk)) :: ((.s (.o (.ptr 0 0 0 0))) :: ((.s (.o .unk)) :: ((.s (.o (.int .i64))) :: ((.s (.o (.ptr 1 0 0 0))) :: (ru2 4 ((.s (.c 4 (nL tP))) :: ((.s (.o (.int .i64))) :: ((.s (.o (.int .i64))) :: (ru2 7 ((.s (.o (.tree 4))) :: ((.s (.o (.int .i64))) :: ((.s (.o (.int .i64))) :: (ru2 25 ((.s (.o (.lit .i64 0))) :: ((.s (.o .unk)) :: ((.s (.o (.ptr 2 0 0 0))) :: ((.s (.o .nil)) :: ((.s (.o (.ptr 3 0 0 0))) :: ((.s (.o (.ptr 4 0 0 0))) :: (ru2 31 []))))))))))))))))))))), [⟨0, 1, true, (some [[(.c 4 (nL tP))]])⟩, ⟨0, 4, true, (some [[(.o (.int .i64)), (.o (.int .i64)), (.o (.int .i64)), (.o (.int .i64))]])⟩, ⟨0, 1, true, (some [[(.c 4 (nL tP))]])⟩, ⟨0, 0, true, (some [[(.o .nil)]])⟩, ⟨0, 0, true, (some [[(.o (.ptr 5 0 0 0))]])⟩, ⟨174, 0, true, (some [])⟩], fun a H => (⟨(toI (slT a 3)), (toI (slT a 10)), (toI (slT a 11)), (toN (slT a 19)), (toG (slT a 19)), (toI (slT a 20)), (toI (slT (rwT (elT H 1) 0) 0)), (toI (slT (rwT (elT H 1) 0) 1)), (toI (slT (rwT (elT H 1) 0) 2)), (toI (slT (rwT (elT H 1) 0) 3))⟩, ⟨0, (rL tP (slT a 9)), (toI (slT a 21)), (rL tP (slT (rwT (elT H 0) 0) 0)), (rL tP (slT (rwT (elT H 2) 0) 0)), 0, [], []⟩)⟩, ⟨((.s (.o .unk)) :: ((.s (.o (.ptr 0 0 0 0))) :: ((.s (.o .unk)) :: ((.s (.o (.int .i64))) :: ((.s (.o (.ptr 1 0 0 0))) :: (ru2 4 ((.s (.c 4 (nL tP))) :: ((.s (.o (.int .i64))) :: ((.s (.o (.int .i64))) :: (ru2 7 ((.s (.o (.tree 4))) :: ((.s (.o (.int .i64))) :: ((.s (.o (.int .i64))) :: (ru2 25 ((.s (.o (.lit .i64 0))) :: ((.s (.o .unk)) :: ((.s (.o (.ptr 2 0 0 0))) :: ((.s (.o .nil)) :: ((.s (.o (.ptr 3 0 0 0))) :: ((.s (.o (.ptr 4 0 0 0))) :: (ru2 31 []))))))))))))))))))))), [⟨0, 1, true, (some [[(.c 4 (nL tP))]])⟩, ⟨0, 4, true, (some [[(.o (.int .i64)), (.o (.int .i64)), (.o (.int .i64)), (.o (.int .i64))]])⟩, ⟨0, 1, true, (some [[(.c 4 (nL tP))]])⟩, ⟨0, 0, true, (some [[(.o (.sl 5 0 (some 0) none))]])⟩, ⟨0, 0, true, (some [[(.o (.ptr 6 0 0 0))]])⟩, ⟨54, 4, true, none⟩, ⟨174, 0, true, none⟩], fun a H => (⟨(toI (slT a 3)), (toI (slT a 10)), (toI (slT a 11)), (toN (slT a 19)), (toG (slT a 19)), (toI (slT a 20)), (toI (slT (rwT (elT H 1) 0) 0)), (toI (slT (rwT (elT H 1) 0) 1)), (toI (slT (rwT (elT H 1) 0) 2)), (toI (slT (rwT (elT H 1) 0) 3))⟩, ⟨1, (rL tP (slT a 9)), (toI (slT a 21)), (rL tP (slT (rwT (elT H 0) 0) 0)), (rL tP (slT (rwT (elT H 2) 0) 0)), (slN (slT (rwT (elT H 3) 0) 0)), (elT H 5), (elT H 6)⟩)⟩], r8, [(some 2, fun p s => ⟨(.unk :: ((.ptr 0 0 0 0) :: (.unk :: ((i p.is3) :: ((.ptr 1 0 0 0) :: (ra 4 ((eL tP s.N8) :: ((i p.Ia6) :: ((i p.T8) :: (ra 7 ((.tree 4 p.Yb1 p.Xa0) :: ((i p.ea6) :: ((i s.ma8) :: ((b (decide (s.ma8 < p.ea6))) :: (ra 24 ((i 0) :: (.unk :: ((.ptr 2 0 0 0) :: ((.v (.slice none 0 0)) :: ((.ptr 3 0 0 0) :: ((.ptr 4 0 0 0) :: (ra 31 [])))))))))))))))))))))), [⟨0, 1, [[(eL tP s.d8)]], true, false, 0⟩, ⟨0, 4, [[(i p.G9), (i p.H4), (i p.H5), (i p.H6)]], true, false, 0⟩, ⟨0, 1, [[(eL tP s.Q5)]], true, false, 0⟩, ⟨0, 0, [[(.v (.slice none 0 0))]], true, false, 0⟩, ⟨0, 0, [[(.ptr 5 0 0 0)]], true, false, 0⟩, ⟨174, 0, [], true, false, 0⟩]⟩), (some 2, fun p s => ⟨(.unk :: ((.ptr 0 0 0 0) :: (.unk :: ((i p.is3) :: ((.ptr 1 0 0 0) :: (ra 4 ((eL tP s.N8) :: ((i p.Ia6) :: ((i p.T8) :: (ra 7 ((.tree 4 p.Yb1 p.Xa0) :: ((i p.ea6) :: ((i s.ma8) :: ((b (decide (s.ma8 < p.ea6))) :: (ra 24 ((i 0) :: (.unk :: ((.ptr 2 0 0 0) :: ((.v (.slice none 0 0)) :: ((.ptr 3 0 0 0) :: ((.ptr 4 0 0 0) :: (ra 31 [])))))))))))))))))))))), [⟨0, 1, [[(eL tP s.d8)]], true, false, 0⟩, ⟨0, 4, [[(i p.G9), (i p.H4), (i p.H5), (i p.H6)]], true, false, 0⟩, ⟨0, 1, [[(eL tP s.Q5)]], true, false, 0⟩, ⟨0, 0, [[(.sl 5 0 s.Yb2 0)]], true, false, 0⟩, ⟨0, 0, [[(.ptr 6 0 0 0)]], true, false, 0⟩, ⟨54, 4, s.eh5, true, false, 0⟩, ⟨174, 0, s.eh6, true, false, 0⟩]⟩)], jb2⟩
theorem jb3 : ka7.OkM := Lo.okM [ka6.prM] (by kernel_rfl) (.cons jb1 .nil) rfl (.cons (fun a H => by kernel_rfl) (.cons (fun a H => by kernel_rfl) .nil)) fun p s => (.sel (Nat.beq s.ph 1) (.of @w9 (fun F _ _ _ _ _ => by unfold w9; (repeat' apply n7 (f := F)) <;> rfl) (by kernel_rfl)) (.of @w8 (fun F _ _ _ _ _ => by unfold w8; (repeat' apply n7 (f := F)) <;> rfl) (by kernel_rfl)))
structure p5 where
 Ia6 : Int
structure l7 where
 ph : Nat
 N8 : List Pln
 T8 : Int
 d8 : List Pln
 Da8 : List Pln
 oc4 : Nat
 eh4 : List (List b7)
 eh5 : List (List b7)
noncomputable def eb0 (p : p5) (s : l7) : St := ⟨(.unk :: ((.ptr 0 0 0 0) :: (ra 7 ((eL tP s.N8) :: ((i p.Ia6) :: ((i s.T8) :: (ra 35 ((i 0) :: (.unk :: ((.ptr 1 0 0 0) :: ((.v (.slice none 0 0)) :: ((.ptr 2 0 0 0) :: ((.ptr 3 0 0 0) :: (ra 31 [])))))))))))))), [⟨0, 1, [[(eL tP s.d8)]], true, false, 0⟩, ⟨0, 1, [[(eL tP s.Da8)]], true, false, 0⟩, ⟨0, 0, [[(.v (.slice none 0 0))]], true, false, 0⟩, ⟨0, 0, [[(.ptr 4 0 0 0)]], true, false, 0⟩, ⟨174, 0, [], true, false, 0⟩]⟩
noncomputable def eb1 (p : p5) (s : l7) : St := ⟨(.unk :: ((.ptr 0 0 0 0) :: (ra 7 ((eL tP s.N8) :: ((i p.Ia6) :: ((i s.T8) :: (ra 35 ((i 0) :: (.unk :: ((.ptr 1 0 0 0) :: ((.v (.slice none 0 0)) :: ((.ptr 2 0 0 0) :: ((.ptr 3 0 0 0) :: (ra 31 [])))))))))))))), [⟨0, 1, [[(eL tP s.d8)]], true, false, 0⟩, ⟨0, 1, [[(eL tP s.Da8)]], true, false, 0⟩, ⟨0, 0, [[(.sl 4 0 s.oc4 0)]], true, false, 0⟩, ⟨0, 0, [[(.ptr 5 0 0 0)]], true, false, 0⟩, ⟨54, 4, s.eh4, true, false, 0⟩, ⟨174, 0, s.eh5, true, false, 0⟩]⟩
noncomputable def jb4 (p : p5) (s : l7) : St := (sel (Nat.beq s.ph 1) (eb1 p s) (eb0 p s))
noncomputable def y5 {α : Type} (k : l7 → α) (e : Nat → α) (z : α) (p : p5) (s : l7) : α := let t1 := (lp (r8 (⟨s.T8, p.Ia6, s.T8, ((List.length s.d8) - (W (s.T8 + 1)).toNat), (fun k => (fun k => (tP).row (gL tP s.d8 k)) ((W (s.T8 + 1)).toNat + k)), (↑((List.length s.d8) - (W (s.T8 + 1)).toNat) : Int), (gL tP s.N8 s.T8.toNat).n.x, (gL tP s.N8 s.T8.toNat).n.y, (gL tP s.N8 s.T8.toNat).n.z, (gL tP s.N8 s.T8.toNat).b⟩ : i9)) (⟨0, (rt tP s.N8), 0, (rt tP s.d8), (rt tP s.Da8), 0, [], []⟩ : j8)); (sl (decide (s.T8 < p.Ia6)) (sl (inB s.T8 (List.length s.N8)) (sl (inB (W (s.T8 + 1)) ((List.length s.d8) + 1)) (sl ((cnE tP s.N8) && ((cnE tP s.d8) && ((cnE tP s.Da8) && true))) (sl (Nat.beq t1.1 1) (k ⟨0, t1.2.N8, (W (s.T8 + 1)), t1.2.d8, t1.2.Q5, 0, [], []⟩) (sl (Nat.beq t1.1 2) (k ⟨1, t1.2.N8, (W (s.T8 + 1)), t1.2.d8, t1.2.Q5, t1.2.Yb2, t1.2.eh5, t1.2.eh6⟩) z)) z) z) z) (e 1))
noncomputable def y6 {α : Type} (k : l7 → α) (e : Nat → α) (z : α) (p : p5) (s : l7) : α := let t1 := (lp (r8 (⟨s.T8, p.Ia6, s.T8, ((List.length s.d8) - (W (s.T8 + 1)).toNat), (fun k => (fun k => (tP).row (gL tP s.d8 k)) ((W (s.T8 + 1)).toNat + k)), (↑((List.length s.d8) - (W (s.T8 + 1)).toNat) : Int), (gL tP s.N8 s.T8.toNat).n.x, (gL tP s.N8 s.T8.toNat).n.y, (gL tP s.N8 s.T8.toNat).n.z, (gL tP s.N8 s.T8.toNat).b⟩ : i9)) (⟨1, (rt tP s.N8), 0, (rt tP s.d8), (rt tP s.Da8), s.oc4, s.eh4, s.eh5⟩ : j8)); (sl (decide (s.T8 < p.Ia6)) (sl (inB s.T8 (List.length s.N8)) (sl (inB (W (s.T8 + 1)) ((List.length s.d8) + 1)) (sl ((cnE tP s.N8) && ((cnE tP s.d8) && ((cnE tP s.Da8) && true))) (sl (Nat.beq t1.1 1) (k ⟨0, t1.2.N8, (W (s.T8 + 1)), t1.2.d8, t1.2.Q5, 0, [], []⟩) (sl (Nat.beq t1.1 2) (k ⟨1, t1.2.N8, (W (s.T8 + 1)), t1.2.d8, t1.2.Q5, t1.2.Yb2, t1.2.eh5, t1.2.eh6⟩) z)) z) z) z) (e 2))
noncomputable def r9 (p : p5) (s : l7) : Stp l7 := (sel (Nat.beq s.ph 1) (y6 .next .exit .fail p s) (y5 .next .exit .fail p s))
noncomputable def ka8 : Lo p5 l7 := ⟨En Z6, 0, be7, [1, 1, 1, 0, 1, 4, 4, 1, 4, 4], [1, 9, 10, 11, 47, 49, 50, 51, 52], (.s .p (.s .p (.s (.b (.s .p (.s .p (.b (.u ka7.lsM))))) .p))), [⟨((.s (.o .unk)) :: ((.s (.o (.ptr 0 0 0 0))) :: (ru2 7 ((.s (.c 4 (nL tP))) :: ((.s (.o (.int .i64))) :: ((.s (.o (.int .i64))) :: (ru2 35 ((.s (.o (.lit .i64 0))) :: ((.s (.o .unk)) :: ((.s (.o (.ptr 1 0 0 0))) :: ((.s (.o .nil)) :: ((.s (.o (.ptr 2 0 0 0))) :: ((.s (.o (.ptr 3 0 0 0))) :: (ru2 31 [])))))))))))))), [⟨0, 1, true, (some [[(.c 4 (nL tP))]])⟩, ⟨0, 1, true, (some [[(.c 4 (nL tP))]])⟩, ⟨0, 0, true, (some [[(.o .nil)]])⟩, ⟨0, 0, true, (some [[(.o (.ptr 4 0 0 0))]])⟩, ⟨174, 0, true, (some [])⟩], fun a H => (⟨(toI (slT a 10))⟩, ⟨0, (rL tP (slT a 9)), (toI (slT a 11)), (rL tP (slT (rwT (elT H 0) 0) 0)), (rL tP (slT (rwT (elT H 1) 0) 0)), 0, [], []⟩)⟩, ⟨((.s (.o .unk)) :: ((.s (.o (.ptr 0 0 0 0))) :: (ru2 7 ((.s (.c 4 (nL tP))) :: ((.s (.o (.int .i64))) :: ((.s (.o (.int .i64))) :: (ru2 35 ((.s (.o (.lit .i64 0))) :: ((.s (.o .unk)) :: ((.s (.o (.ptr 1 0 0 0))) :: ((.s (.o .nil)) :: ((.s (.o (.ptr 2 0 0 0))) :: ((.s (.o (.ptr 3 0 0 0))) :: (ru2 31 [])))))))))))))), [⟨0, 1, true, (some [[(.c 4 (nL tP))]])⟩, ⟨0, 1, true, (some [[(.c 4 (nL tP))]])⟩, ⟨0, 0, true, (some [[(.o (.sl 4 0 (some 0) none))]])⟩, ⟨0, 0, true, (some [[(.o (.ptr 5 0 0 0))]])⟩, ⟨54, 4, true, none⟩, ⟨174, 0, true, none⟩], fun a H => (⟨(toI (slT a 10))⟩, ⟨1, (rL tP (slT a 9)), (toI (slT a 11)), (rL tP (slT (rwT (elT H 0) 0) 0)), (rL tP (slT (rwT (elT H 1) 0) 0)), (slN (slT (rwT (elT H 2) 0) 0)), (elT H 4), (elT H 5)⟩)⟩], r9, [(some 0, fun p s => ⟨(.unk :: ((.ptr 0 0 0 0) :: (ra 7 ((eL tP s.N8) :: ((i p.Ia6) :: ((i s.T8) :: ((b (decide (s.T8 < p.Ia6))) :: (ra 34 ((i 0) :: (.unk :: ((.ptr 1 0 0 0) :: ((.v (.slice none 0 0)) :: ((.ptr 2 0 0 0) :: ((.ptr 3 0 0 0) :: (ra 31 []))))))))))))))), [⟨0, 1, [[(eL tP s.d8)]], true, false, 0⟩, ⟨0, 1, [[(eL tP s.Da8)]], true, false, 0⟩, ⟨0, 0, [[(.v (.slice none 0 0))]], true, false, 0⟩, ⟨0, 0, [[(.ptr 4 0 0 0)]], true, false, 0⟩, ⟨174, 0, [], true, false, 0⟩]⟩), (some 0, fun p s => ⟨(.unk :: ((.ptr 0 0 0 0) :: (ra 7 ((eL tP s.N8) :: ((i p.Ia6) :: ((i s.T8) :: ((b (decide (s.T8 < p.Ia6))) :: (ra 34 ((i 0) :: (.unk :: ((.ptr 1 0 0 0) :: ((.v (.slice none 0 0)) :: ((.ptr 2 0 0 0) :: ((.ptr 3 0 0 0) :: (ra 31 []))))))))))))))), [⟨0, 1, [[(eL tP s.d8)]], true, false, 0⟩, ⟨0, 1, [[(eL tP s.Da8)]], true, false, 0⟩, ⟨0, 0, [[(.sl 4 0 s.oc4 0)]], true, false, 0⟩, ⟨0, 0, [[(.ptr 5 0 0 0)]], true, false, 0⟩, ⟨54, 4, s.eh4, true, false, 0⟩, ⟨174, 0, s.eh5, true, false, 0⟩]⟩)], jb4⟩
theorem jb5 : ka8.OkM := Lo.okM [ka7.prM] (by kernel_rfl) (.cons jb3 .nil) rfl (.cons (fun a H => by kernel_rfl) (.cons (fun a H => by kernel_rfl) .nil)) fun p s => (.sel (Nat.beq s.ph 1) (.of @y6 (fun F _ _ _ _ _ => by unfold y6; (repeat' apply n7 (f := F)) <;> rfl) (by kernel_rfl)) (.of @y5 (fun F _ _ _ _ _ => by unfold y5; (repeat' apply n7 (f := F)) <;> rfl) (by kernel_rfl)))
noncomputable def T3 (x : List Pln) : Option (b7 × List b8) := let t1 := (lp (r9 (⟨(↑(List.length x) : Int)⟩ : p5)) (⟨0, (rt tP x), 0, (rt tP x), (rt tP x), 0, [], []⟩ : l7)); (sl ((cnE tP x) && ((cnE tP x) && ((cnE tP x) && true))) (sl (Nat.beq t1.1 1) (some ((.v (.slice none 0 0)), [])) (sl (Nat.beq t1.1 2) (some ((.sl 0 0 t1.2.oc4 0), [⟨54, 4, t1.2.eh4, true, false, 0⟩])) none)) none)
noncomputable def T4 (x : List Pln) : List Pt := O4 (one (r1L tX)) (T3 x)
noncomputable def T5 (x : List Pln) : Bool := okO (one (r1L tX)) (T3 x)
noncomputable def ra0 : Sum := ia6 (ga9 tP) (fun x => .guard (T5 x) (.ret ((one (r1L tX)).enc (T4 x), [])))
theorem Fa7 : j7 prog G 89 ra0 := Ba4 (bd b89 nb0) (one (r1L tX)) (o := T3) fun x => ke5 (.s .p (.s .p (.s .p (.s (.s .p (.b (.i (.s .p (.b (.u ka8.lsM)))))) .p)))) [ka8.prM] (by kernel_rfl) (.cons jb5 .nil) (by kernel_rfl)
end Go.Ev.Ce
end
section
namespace Go.Ev.Ce
open Go Go.Ev Go.Ev.L Go.Proofs
set_option maxRecDepth 100000
noncomputable def ub4 : List (Nat × Sum) := []
theorem cc2 : l5 prog G ub4 := trivial
structure ka9 where
 is0 : Int
 md1 : List Int
 is8 : Int
structure I8 where
 is9 : Int
noncomputable def Ub2 (p : ka9) (s : I8) : St := ⟨((i p.is0) :: (ra 6 ((eL tI p.md1) :: ((i p.is8) :: ((i s.is9) :: (ra 13 [])))))), []⟩
noncomputable def da0 {α : Type} (k : I8 → α) (e : Nat → α) (z : α) (p : ka9) (s : I8) : α := (sl (decide (s.is9 < p.is8)) (sl (inB s.is9 (List.length p.md1)) (sl (decide ((gL tI p.md1 s.is9.toNat) < (W (0 - p.is0)))) (e 1) (sl (decide ((gL tI p.md1 s.is9.toNat) > p.is0)) (e 1) (k ⟨(W (s.is9 + 1))⟩))) z) (e 2))
noncomputable def ha6 (p : ka9) (s : I8) : Stp I8 := da0 .next .exit .fail p s
noncomputable def Ka5 : Lo ka9 I8 := ⟨En ub4, 0, je2, [1, 0, 1, 4, 4], [0, 7, 8, 9], .p, [⟨((.s (.o (.int .i64))) :: (ru2 6 ((.s (.c 1 (nL tI))) :: ((.s (.o (.int .i64))) :: ((.s (.o (.int .i64))) :: (ru2 13 [])))))), [], fun a H => (⟨(toI (slT a 0)), (rL tI (slT a 7)), (toI (slT a 8))⟩, ⟨(toI (slT a 9))⟩)⟩], ha6, [(none, fun p s => ⟨[(b false)], []⟩), (some 0, fun p s => ⟨((i p.is0) :: (ra 6 ((eL tI p.md1) :: ((i p.is8) :: ((i s.is9) :: ((b (decide (s.is9 < p.is8))) :: (ra 12 []))))))), []⟩)], Ub2⟩
theorem Ub3 : Ka5.Ok := Lo.ok [] (by kernel_rfl) .nil rfl (.cons (fun a H => by kernel_rfl) .nil) fun p s => (.of @da0 (fun F _ _ _ _ _ => by unfold da0; (repeat' apply n7 (f := F)) <;> rfl) (by kernel_rfl))
noncomputable def ta5 (x : Int) (y : List Int) : Option (b7 × List b8) := let t1 := (lp (ha6 (⟨x, (rt tI y), (↑(List.length y) : Int)⟩ : ka9)) (⟨0⟩ : I8)); (sl ((cnE tI y) && true) (sl (Nat.beq t1.1 1) (some ((b false), [])) (sl (Nat.beq t1.1 2) (some ((b true), [])) none)) none)
noncomputable def la0 (x : Int) (y : List Int) : Bool := O4 (one r1B) (ta5 x y)
noncomputable def la1 (x : Int) (y : List Int) : Bool := okO (one r1B) (ta5 x y)
noncomputable def ab6 : Sum := ja9 cI (ga9 tI) (fun x y => .guard (la1 x y) (.ret ((one r1B).enc (la0 x y), [])))
theorem ub5 : j7 prog G 164 ab6 := lb8 (bd Ke0 cc2) (one r1B) (o := ta5) fun x y => Ba5 (.s .p (.s (.s .p (.b (.u Ka5.ls))) .p)) [Ka5.pr] (by kernel_rfl) (.cons Ub3 .nil) (by kernel_rfl)
noncomputable def Ub4 : List (Nat × Sum) := []
theorem Nb2 : l5 prog G Ub4 := trivial
noncomputable def va8 (x : Int) : Int := (if (W (0 - x)) > x then (W (0 - x)) else x)
noncomputable def nb1 : Sum := ia6 cI (fun x => .ret ((one r1I).enc (va8 x), []))
theorem Ub5 : j7 prog G 214 nb1 := Fb1 (bd Me2 Nb2) fun x => s9 (by kernel_rfl)
noncomputable def Ka6 : List (Nat × Sum) := [(214, nb1)]
theorem Ub6 : l5 prog G Ka6 := ⟨Ub5, trivial⟩
structure X6 where
 xa2 : List Int
 is7 : Int
 is8 : Int
structure J7 where
 is3 : Int
 is5 : Int
noncomputable def Nb3 (p : X6) (s : J7) : St := ⟨(ra 3 ((i s.is3) :: (.unk :: ((i s.is5) :: ((eL tI p.xa2) :: ((i p.is7) :: ((i p.is8) :: (ra 15 [])))))))), []⟩
noncomputable def Z0 {α : Type} (k : J7 → α) (e : Nat → α) (z : α) (p : X6) (s : J7) : α := (sl (decide (s.is5 > 0)) (sl (s.is5 == 0) z (k ⟨s.is5, (Int.tmod s.is3 s.is5)⟩)) (e 1))
noncomputable def T7 (p : X6) (s : J7) : Stp J7 := Z0 .next .exit .fail p s
noncomputable def Fa8 : Lo X6 J7 := ⟨En Ka6, 0, Pd0, [1, 1, 0, 1, 4, 4, 1, 1, 0, 4, 1, 1, 1, 4, 4], [3, 5, 6, 7, 8], .p, [⟨(ru2 3 ((.s (.o (.int .i64))) :: ((.s (.o .unk)) :: ((.s (.o (.int .i64))) :: ((.s (.c 1 (nL tI))) :: ((.s (.o (.int .i64))) :: ((.s (.o (.int .i64))) :: (ru2 15 [])))))))), [], fun a H => (⟨(rL tI (slT a 6)), (toI (slT a 7)), (toI (slT a 8))⟩, ⟨(toI (slT a 3)), (toI (slT a 5))⟩)⟩], T7, [(some 2, fun p s => ⟨(ra 3 ((i s.is3) :: (.unk :: ((i s.is5) :: ((eL tI p.xa2) :: ((i p.is7) :: ((i p.is8) :: (ra 7 ((i s.is5) :: ((b (decide (s.is5 > 0))) :: (ra 6 []))))))))))), []⟩)], Nb3⟩
theorem Nb4 : Fa8.Ok := Lo.ok [] (by kernel_rfl) .nil rfl (.cons (fun a H => by kernel_rfl) .nil) fun p s => (.of @Z0 (fun F _ _ _ _ _ => by unfold Z0; (repeat' apply n7 (f := F)) <;> rfl) (by kernel_rfl))
structure ha7 where
 is7 : Int
structure G1 where
 is3 : Int
 xa2 : List Int
 is8 : Int
noncomputable def Nb5 (p : ha7) (s : G1) : St := ⟨(ra 3 ((i s.is3) :: (.unk :: (.unk :: ((eL tI s.xa2) :: ((i p.is7) :: ((i s.is8) :: (ra 15 [])))))))), []⟩
noncomputable def Z1 {α : Type} (k : G1 → α) (e : Nat → α) (z : α) (p : ha7) (s : G1) : α := let t1 := (va8 (gL tI s.xa2 s.is8.toNat)); let t2 := (lp (T7 (⟨(rt tI s.xa2), p.is7, s.is8⟩ : X6)) (⟨s.is3, t1⟩ : J7)); (sl (decide (s.is8 < p.is7)) (sl (inB s.is8 (List.length s.xa2)) (sl ((gL tI s.xa2 s.is8.toNat) == (-9223372036854775808)) (e 1) (sl ((cnE tI s.xa2) && true) (sl (Nat.beq t2.1 1) (k ⟨t2.2.is3, (rt tI s.xa2), (W (s.is8 + 1))⟩) z) z)) z) (e 2))
noncomputable def da1 (p : ha7) (s : G1) : Stp G1 := Z1 .next .exit .fail p s
noncomputable def Fa9 : Lo ha7 G1 := ⟨En Ka6, 0, Pd0, [1, 1, 0, 1, 4, 4], [3, 6, 7, 8], (.s .p (.s .p (.s (.b (.s .p (.s .p (.s .p (.b (.u Fa8.ls)))))) .p))), [⟨(ru2 3 ((.s (.o (.int .i64))) :: ((.s (.o .unk)) :: ((.s (.o .unk)) :: ((.s (.c 1 (nL tI))) :: ((.s (.o (.int .i64))) :: ((.s (.o (.int .i64))) :: (ru2 15 [])))))))), [], fun a H => (⟨(toI (slT a 7))⟩, ⟨(toI (slT a 3)), (rL tI (slT a 6)), (toI (slT a 8))⟩)⟩], da1, [(none, fun p s => ⟨[(i 0)], []⟩), (some 0, fun p s => ⟨(ra 3 ((i s.is3) :: (.unk :: (.unk :: ((eL tI s.xa2) :: ((i p.is7) :: ((i s.is8) :: ((b (decide (s.is8 < p.is7))) :: (ra 14 []))))))))), []⟩)], Nb5⟩
theorem Nb6 : Fa9.Ok := Lo.ok [Fa8.pr] (by kernel_rfl) (.cons Nb4 .nil) rfl (.cons (fun a H => by kernel_rfl) .nil) fun p s => (.of @Z1 (fun F _ _ _ _ _ => by unfold Z1; (repeat' apply n7 (f := F)) <;> rfl) (by kernel_rfl))
noncomputable def oa8 (x : List Int) : Option (b7 × List b8) := let t1 := (lp (da1 (⟨(↑(List.length x) : Int)⟩ : ha7)) (⟨0, (rt tI x), 0⟩ : G1)); (sl ((cnE tI x) && true) (sl (Nat.beq t1.1 1) (some ((i 0), [])) (sl (Nat.beq t1.1 2) (some ((i t1.2.is3), [])) none)) none)
noncomputable def za9 (x : List Int) : Int := O4 (one r1I) (oa8 x)
noncomputable def Aa0 (x : List Int) : Bool := okO (one r1I) (oa8 x)
noncomputable def ub6 : Sum := ia6 (ga9 tI) (fun x => .guard (Aa0 x) (.ret ((one r1I).enc (za9 x), [])))
theorem cc3 : j7 prog G 165 ub6 := Ba4 (bd Ke1 Ub6) (one r1I) (o := oa8) fun x => Ba5 (.s .p (.s .p (.s (.s .p (.b (.u Fa9.ls))) .p))) [Fa9.pr] (by kernel_rfl) (.cons Nb6 .nil) (by kernel_rfl)
noncomputable def vc4 : List (Nat × Sum) := [(164, ab6), (165, ub6)]
theorem kc2 : l5 prog G vc4 := ⟨ub5, cc3, trivial⟩
noncomputable def ya4 (x : Pln) : Option (b7 × List b8) := let t1 := (la0 4608 [x.n.x, x.n.y, x.n.z]); let t2 := (za9 [x.n.x, x.n.y, x.n.z]); let t3 := (la0 2097152 [x.b]); (sl (la1 4608 [x.n.x, x.n.y, x.n.z]) (sl t1 (sl (Aa0 [x.n.x, x.n.y, x.n.z]) (sl (t2 == 1) (sl (la1 2097152 [x.b]) (some ((b t3), [])) none) (some ((b false), []))) none) (some ((b false), []))) none)
noncomputable def Ma8 (x : Pln) : Bool := O4 (one r1B) (ya4 x)
noncomputable def Ma9 (x : Pln) : Bool := okO (one r1B) (ya4 x)
noncomputable def Kb3 : Sum := ia6 (V6 tP) (fun x => .guard (Ma9 x) (.ret ((one r1B).enc (Ma8 x), [])))
theorem vc5 : j7 prog G 85 Kb3 := Ba4 (bd b85 kc2) (one r1B) (o := ya4) fun x => s9 (by kernel_rfl)
noncomputable def kc3 : List (Nat × Sum) := [(85, Kb3)]
theorem cc4 : l5 prog G kc3 := ⟨vc5, trivial⟩
noncomputable def ta6 (x : Pln) : Option (b7 × List b8) := let t1 := (Ma8 x); (sl (Ma9 x) (some ((b (!t1)), [])) none)
noncomputable def Ga0 (x : Pln) : Bool := O4 (one r1B) (ta6 x)
noncomputable def Ga1 (x : Pln) : Bool := okO (one r1B) (ta6 x)
noncomputable def Bb2 : Sum := ia6 (V6 tP) (fun x => .guard (Ga1 x) (.ret ((one r1B).enc (Ga0 x), [])))
theorem kc4 : j7 prog G 84 Bb2 := Ba4 (bd b84 cc4) (one r1B) (o := ta6) fun x => s9 (by kernel_rfl)
structure R7 where
 c9 : List Pln
noncomputable def ta7 : List (Nat × Sum) := [(84, Bb2)]
theorem Va4 : l5 prog G ta7 := ⟨kc4, trivial⟩
structure G2 where
 c9 : List Pln
 is7 : Int
structure o0 where
 is8 : Int
noncomputable def Sa4 (p : G2) (s : o0) : St := ⟨((eL tP p.c9) :: ((.fn 84 []) :: (ra 5 ((i p.is7) :: ((i s.is8) :: (ra 10 [])))))), []⟩
noncomputable def B7 {α : Type} (k : o0 → α) (e : Nat → α) (z : α) (p : G2) (s : o0) : α := let t1 := (Ga0 (gL tP p.c9 s.is8.toNat)); (sl (decide (s.is8 < p.is7)) (sl (inB s.is8 (List.length p.c9)) (sl (Ga1 (gL tP p.c9 s.is8.toNat)) (sl t1 (e 1) (k ⟨(W (s.is8 + 1))⟩)) z) z) (e 2))
noncomputable def D8 (p : G2) (s : o0) : Stp o0 := B7 .next .exit .fail p s
noncomputable def Z7 : Lo G2 o0 := ⟨En ta7, 0, xd7, [1, 0, 1, 4, 4], [0, 1, 7, 8], .p, [⟨((.s (.c 4 (nL tP))) :: ((.s (.o (.fn 84))) :: (ru2 5 ((.s (.o (.int .i64))) :: ((.s (.o (.int .i64))) :: (ru2 10 [])))))), [], fun a H => (⟨(rL tP (slT a 0)), (toI (slT a 7))⟩, ⟨(toI (slT a 8))⟩)⟩], D8, [(none, fun p s => ⟨[(i s.is8)], []⟩), (some 0, fun p s => ⟨((eL tP p.c9) :: ((.fn 84 []) :: (ra 5 ((i p.is7) :: ((i s.is8) :: ((b (decide (s.is8 < p.is7))) :: (ra 9 []))))))), []⟩)], Sa4⟩
theorem Sa5 : Z7.Ok := Lo.ok [] (by kernel_rfl) .nil rfl (.cons (fun a H => by kernel_rfl) .nil) fun p s => (.of @B7 (fun F _ _ _ _ _ => by unfold B7; (repeat' apply n7 (f := F)) <;> rfl) (by kernel_rfl))
structure R8 where
 alt : Nat
 is0 : Int
noncomputable def C7 {α : Type} (kk : R8 → α) (x : R7) : α := let t1 := (lp (D8 (⟨(rt tP x.c9), (↑(List.length x.c9) : Int)⟩ : G2)) (⟨0⟩ : o0)); (sl ((cnE tP x.c9) && true) (sl (Nat.beq t1.1 1) (kk ⟨1, t1.2.is8⟩) (sl (Nat.beq t1.1 2) (kk ⟨1, (-1)⟩) (kk ⟨0, 0⟩))) (kk ⟨0, 0⟩))
noncomputable def fa2 (x : R7) : R8 := C7 (fun r => r) x
noncomputable def da2 (x : R7) (r : R8) : DT (b7 × List b8) := (.ite (Nat.beq r.alt 1) (.ret ((i r.is0), [])) .fail)
theorem eb2 {α β : Type} (F : α → β) (kk : R8 → α) (x : R7) : F (C7 kk x) = C7 (fun r => F (kk r)) x := by unfold C7; (repeat' apply n7 (f := F)) <;> rfl
noncomputable def wa5 : Sum := Ya9 ⟨[(.s (.c 4 (nL tP))), (.s (.o (.fn 84)))], [], fun a H => (⟨(rL tP (slT a 0))⟩, ())⟩ (fun x => da2 x (fa2 x))
theorem ab7 : j7 prog G 163 wa5 := R3 (enc := fun x => ⟨[(eL tP x.c9), (.fn 84 [])], []⟩) (fun a H => by kernel_rfl) (bd pe5 Va4) fun x => Ba5 (.s .p (.s (.s .p (.b (.u Z7.ls))) .p)) [Z7.pr] (by kernel_rfl) (.cons Sa5 .nil) (Eq.trans (b := C7 (fun r => (da2 x r).run) x) (by kernel_rfl) (eb2 (fun r => (da2 x r).run) (fun r => r) x).symm)
structure L0 where
 c9 : List Pln
noncomputable def Pa1 : List (Nat × Sum) := [(163, wa5)]
theorem Ka7 : l5 prog G Pa1 := ⟨ab7, trivial⟩
structure L1 where
 alt : Nat
 bs0 : Bool
noncomputable def z5 {α : Type} (kk : L1 → α) (x : L0) : α := let t1 := (fa2 ⟨(rt tP x.c9)⟩); (sl ((cnE tP x.c9) && true) (sl (Nat.beq t1.alt 1) (kk ⟨1, (decide (t1.is0 ≥ 0))⟩) (kk ⟨0, false⟩)) (kk ⟨0, false⟩))
noncomputable def Y2 (x : L0) : L1 := z5 (fun r => r) x
noncomputable def V9 (x : L0) (r : L1) : DT (b7 × List b8) := (.ite (Nat.beq r.alt 1) (.ret ((b r.bs0), [])) .fail)
theorem Sa6 {α β : Type} (F : α → β) (kk : L1 → α) (x : L0) : F (z5 kk x) = z5 (fun r => F (kk r)) x := by unfold z5; (repeat' apply n7 (f := F)) <;> rfl
noncomputable def oa9 : Sum := Ya9 ⟨[(.s (.c 4 (nL tP))), (.s (.o (.fn 84)))], [], fun a H => (⟨(rL tP (slT a 0))⟩, ())⟩ (fun x => V9 x (Y2 x))
theorem Pa2 : j7 prog G 83 oa9 := R3 (enc := fun x => ⟨[(eL tP x.c9), (.fn 84 [])], []⟩) (fun a H => by kernel_rfl) (bd b83 Ka7) fun x => s9 (Eq.trans (b := z5 (fun r => (V9 x r).run) x) (by kernel_rfl) (Sa6 (fun r => (V9 x r).run) (fun r => r) x).symm)
noncomputable def Ec9 : List (Nat × Sum) := [(83, oa9)]
theorem vc6 : l5 prog G Ec9 := ⟨Pa2, trivial⟩
noncomputable def Ga2 (x : List Pln) : Option (b7 × List b8) := let t1 := (Y2 ⟨(rt tP x)⟩); (sl (decide ((↑(List.length x) : Int) > 48)) (some ((i 2), [])) (sl ((cnE tP x) && true) (sl (Nat.beq t1.alt 1) (sl t1.bs0 (some ((i 12), [])) (some ((i 0), []))) none) none))
noncomputable def Ga3 (x : List Pln) : Int := O4 (one r1I) (Ga2 x)
noncomputable def Ga4 (x : List Pln) : Bool := okO (one r1I) (Ga2 x)
noncomputable def rb7 : Sum := ia6 (ga9 tP) (fun x => .guard (Ga4 x) (.ret ((one r1I).enc (Ga3 x), [])))
theorem Kb4 : j7 prog G 15 rb7 := Ba4 (bd b15 vc6) (one r1I) (o := Ga2) fun x => s9 (by kernel_rfl)
noncomputable def kc5 : List (Nat × Sum) := [(15, rb7)]
theorem cc5 : l5 prog G kc5 := ⟨Kb4, trivial⟩
noncomputable def ta8 (x : List Pln) : Option (b7 × List b8) := let t1 := (Ga3 (rt tP x)); (sl (okE tP x) (sl (Ga4 (rt tP x)) (some ((b (t1 != 0)), [])) none) none)
noncomputable def Ga5 (x : List Pln) : Bool := O4 (one r1B) (ta8 x)
noncomputable def Ga6 (x : List Pln) : Bool := okO (one r1B) (ta8 x)
noncomputable def Bb3 : Sum := ia6 (ga9 tP) (fun x => .guard (Ga6 x) (.ret ((one r1B).enc (Ga5 x), [])))
theorem kc6 : j7 prog G 168 Bb3 := Ba4 (bd Ke4 cc5) (one r1B) (o := ta8) fun x => s9 (by kernel_rfl)
end Go.Ev.Ce
end
namespace Go.Proofs
open Go.Shelf
shelf_lay_g Lays8.n4 Nm8 4 at Tryz 216 as Ce.growP
end Go.Proofs
namespace Go.Ev.Ce
open Go Go.Ev Go.Proofs
noncomputable def Tc4 : List b7 := [i 0, i 0, i 0, i 0]
noncomputable def xa3 : Sum := fun args blks => match args, blks with
 | [.v (.slice none 0 0), .v (.int .i64 n)], [] => .ite (n == 0) (.ret (.v (.slice none 0 0), []))
   (.guard (Bool.and (decide (0 < n)) (Nat.ble (n.toNat * 32) room)) (.ret (.sl 0 0 0 0, [⟨50, 4, List.replicate n.toNat Tc4, true, false, 0⟩])))
 | _, _ => .fail
theorem z50 : zeT Tryz.prog 50 = some Tc4 := by kernel_rfl
theorem s50 : szT Tryz.prog 50 = 4 := by kernel_rfl
theorem y50 : byT Tryz.prog 50 = 32 := by kernel_rfl
theorem t25 : Ce.growP_ren.t 25 = 50 := by kernel_rfl
theorem f4 : Ce.growP_ren.f 4 = 216 := by kernel_rfl
set_option maxRecDepth 100000 in
theorem Bb4 : j7 prog G 216 xa3 := by
 intro args blks r out he W ρ F w args' hH hlen hargs hG
 refine ⟨⟨_, Tryz.func216, by kernel_rfl, of_decide_eq_true (by kernel_rfl)⟩, ?_⟩
 unfold xa3 at he
 split at he
 case h_2 => cases he
 rename_i n
 match args', hlen with
 | [v0, v1], _ =>
 have e0 := ca0 (hargs 0 _ _ rfl rfl)
 have e1 := ca0 (hargs 1 _ _ rfl rfl)
 subst e0 e1
 rcases DT.run_ite_some he with ⟨h0, he⟩ | ⟨h0, he⟩
 ·have h0 : n = 0 := by simpa using h0
  subst h0
  injection he with he; injection he with q1 q2; subst q1 q2
  have := Any8.slices_Grow_room Ce.growP none 0 0 0 w (Nat.le_refl _) (by omega) (by omega) (by omega)
  rw [f4] at this
  refine this.mono fun e w' ⟨h1, h2⟩ => ?_
  subst h1 h2
  exact ⟨_, rfl, ρ, F, .refl, hH, .ofv _⟩
 ·obtain ⟨hg, he⟩ := DT.run_guard_some he
  rw [Bool.and_eq_true, decide_eq_true_eq] at hg
  obtain ⟨hpos, hroom⟩ := hg
  have hroom := Nat.le_of_ble_eq_true hroom
  unfold room at hroom
  obtain ⟨m, rfl⟩ := Int.eq_ofNat_of_zero_le (Int.le_of_lt hpos)
  have hm : 0 < m := by omega
  have he : some (b7.sl 0 0 0 0, [(⟨50, 4, List.replicate m Tc4, true, false, 0⟩ : b8)]) = some (r, out) := he
  injection he with he; injection he with q1 q2; subst q1 q2
  obtain ⟨ti, zv, hi, hzz, hzr, hone⟩ := Ja4 (E := En []) z50
  have hi : Tryz.prog.info? 50 = some ti := hi
  have hts : ti.size = 4 := by have := s50; simp only [szT, hi] at this; exact this
  have hby : ti.bytes = 32 := by have := y50; simp only [byT, hi] at this; exact this
  have hzs : zv.cells.size = 4 := by
   have := congrArg List.length hzr
   simpa [Tc4] using this.symm
  have hroom' : m * 32 ≤ 140737488355328 := hroom
  have := Any8.slices_Grow_grow Ce.growP ti zv (by rw [t25]; exact hi) hzz (by omega) none 0 0 m [] w (Nat.le_refl _) (by omega) (by rw [hby]; omega) (by omega) (by simp) (fun _ => rfl) (fun a ha => by cases ha)
  rw [f4, t25] at this
  refine this.mono fun e w' ⟨h1, h2⟩ => ?_
  have hcap := grownCap_ge w (0 + m) 0 50
  have hcap2 := grownCap_le_maxLen w (0 + m) 0 50 (by unfold maxLen; omega)
  subst h1
  generalize grownCap w (0 + m) 0 50 = G' at *
  have hsz : ∀ q, (Builtin.zeroCells zv.cells q).size = q * 4 := fun q => by simp [Builtin.zeroCells, hzs]
  have hcc : (#[] ++ Builtin.zeroCells zv.cells (0 + m - 0) ++ Builtin.zeroCells zv.cells (G' - (0 + m))).size = G' * 4 := by
   rw [Array.size_append, Array.size_append, hsz, hsz]
   simp
   omega
  have hobj : w'.heap[w.heap.size]? = some (.cells (#[] ++ Builtin.zeroCells zv.cells (0 + m - 0) ++ Builtin.zeroCells zv.cells (G' - (0 + m))) 50 (0, 0)) := by
   rw [h2]
   exact World.alloc_heap_new w.drew _
  have hold : ∀ k, k < w.heap.size → w'.heap[k]? = w.heap[k]? := fun k hk => by
   rw [h2]
   simp only [World.alloc, Array.getElem?_push, World.drew]
   rw [if_neg (by omega)]
  have hws : w'.heap.size = w.heap.size + 1 := by rw [h2]; exact Array.size_push ..
  obtain ⟨h6, h7⟩ := hH.newAt (w' := w') (by rw [h2]; rfl) (by rw [h2]; rfl) (by rw [h2]; rfl) (by rw [h2]; exact Nat.le_succ _) (by omega) hold w.heap.size (Nat.le_refl _) 50 4 (List.replicate m Tc4) _ 50 hobj
   (fun j r hr => by rw [List.getElem?_replicate] at hr; split at hr <;> cases hr; rfl) (by rw [List.length_replicate, hcc]; omega)
   (fun j r c x hr hx => by
    have hjm : j < m := by
     have := (List.getElem?_eq_some_iff.1 hr).1
     simpa using this
    rw [List.getElem?_replicate, if_pos hjm] at hr
    injection hr with hr
    subst hr
    have hc4 : c < 4 := (List.getElem?_eq_some_iff.1 hx).1
    rw [hzr, List.getElem?_map] at hx
    have hcz : c < zv.cells.size := by omega
    have hq : zv.cells.toList[c]? = some zv.cells[c] := by simp [hcz]
    rw [hq] at hx
    injection hx with hx
    subst hx
    refine ⟨zv.cells[c], ?_, .v _ (hone _ (by simp))⟩
    have hlt : j * 4 + c < m * 4 := by omega
    rw [Array.append_assoc, Array.empty_append, Array.getElem?_append_left (by rw [hsz]; omega)]
    have hm4 : (j * 4 + c) % 4 = c := by omega
    simp only [Builtin.zeroCells, hzs]
    rw [Array.getElem?_map, Array.getElem?_range]
    rw [if_pos (by omega)]
    simp [hm4, hcz])
   (fun _ => rfl)
  refine ⟨_, rfl, _, F, h6, h7, .val (.cell ?_)⟩
  refine .sl 0 0 0 0 _ _ { et := 50, es := 4, elems := List.replicate m Tc4, own := true, dead := false, g := 0 } rfl rfl (Nat.le_refl _) (Nat.zero_le _) rfl hcap2 fun _ => ⟨.inr ?_, ?_, by simp⟩
  ·simp [ρnew]
  ·simp only [ρnew, List.length_nil, if_true]
   rw [hcc, Nat.zero_add]
end Go.Ev.Ce
