/- Own work: a part of the proof. -/
import Derived.Test.YtlccibobknidjaaEvBd
import Derived.Test.YtlccibobknidjaaChecked
import Derived.Test.YtlccibobknidjaaEvICePf
import Derived.KernelRfl
import Derived.Test.YtlccibobknidjaaEvSp7
import Derived.Test.YtlccibobknidjaaEvOps
import Derived.Shelf.Spec.SlicesGrow
set_option linter.unusedVariables false
set_option linter.unusedSimpArgs false
set_option linter.unnecessarySimpa false
set_option linter.unusedSectionVars false
section
namespace Go.Ev.Ce
open Go Go.Ev Go.Proofs
set_option maxRecDepth 1000000
theorem mx : (Try.prog).follows .mixedOrders = true := Checked.mixed Try.checked
theorem b3 : E0 Try.prog 3 fun E => n8 E pf3 := G2 mx Try.func3 (by kernel_rfl) (i8 (by kernel_rfl))
theorem b4 : E0 Try.prog 4 fun E => n8 E pf4 := G2 mx Try.func4 (by kernel_rfl) (i8 (by kernel_rfl))
theorem b5 : E0 Try.prog 5 fun E => n8 E pf5 := G2 mx Try.func5 (by kernel_rfl) (i8 (by kernel_rfl))
theorem b6 : E0 Try.prog 6 fun E => n8 E pf6 := G2 mx Try.func6 (by kernel_rfl) (i8 (by kernel_rfl))
theorem b7 : E0 Try.prog 7 fun E => n8 E pf7 := G2 mx Try.func7 (by kernel_rfl) (i8 (by kernel_rfl))
theorem b8 : E0 Try.prog 8 fun E => n8 E pf8 := G2 mx Try.func8 (by kernel_rfl) (i8 (by kernel_rfl))
theorem b9 : E0 Try.prog 9 fun E => n8 E pf9 := G2 mx Try.func9 (by kernel_rfl) (i8 (by kernel_rfl))
theorem b10 : E0 Try.prog 10 fun E => n8 E Cd8 := G2 mx Try.func10 (by kernel_rfl) (i8 (by kernel_rfl))
theorem b12 : E0 Try.prog 12 fun E => n8 E Cd9 := G2 mx Try.func12 (by kernel_rfl) (i8 (by kernel_rfl))
theorem b13 : E0 Try.prog 13 fun E => n8 E Dd0 := G2 mx Try.func13 (by kernel_rfl) (i8 (by kernel_rfl))
theorem b14 : E0 Try.prog 14 fun E => n8 E Dd1 := G2 mx Try.func14 (by kernel_rfl) (i8 (by kernel_rfl))
theorem b15 : E0 Try.prog 15 fun E => n8 E Dd2 := G2 mx Try.func15 (by kernel_rfl) (i8 (by kernel_rfl))
theorem b16 : E0 Try.prog 16 fun E => n8 E Dd3 := G2 mx Try.func16 (by kernel_rfl) (i8 (by kernel_rfl))
theorem b17 : E0 Try.prog 17 fun E => n8 E Dd4 := G2 mx Try.func17 (by kernel_rfl) (i8 (by kernel_rfl))
theorem b18 : E0 Try.prog 18 fun E => n8 E Dd5 := G2 mx Try.func18 (by kernel_rfl) (i8 (by kernel_rfl))
theorem b19 : E0 Try.prog 19 fun E => n8 E Dd6 := G2 mx Try.func19 (by kernel_rfl) (i8 (by kernel_rfl))
theorem b20 : E0 Try.prog 20 fun E => n8 E Dd7 := G2 mx Try.func20 (by kernel_rfl) (i8 (by kernel_rfl))
theorem b21 : E0 Try.prog 21 fun E => n8 E Dd8 := G2 mx Try.func21 (by kernel_rfl) (i8 (by kernel_rfl))
theorem b22 : E0 Try.prog 22 fun E => n8 E yd6 := G2 mx Try.func22 (by kernel_rfl) (i8 (by kernel_rfl))
theorem b23 : E0 Try.prog 23 fun E => n8 E yd7 := G2 mx Try.func23 (by kernel_rfl) (i8 (by kernel_rfl))
theorem b24 : E0 Try.prog 24 fun E => n8 E Dd9 := G2 mx Try.func24 (by kernel_rfl) (i8 (by kernel_rfl))
theorem b25 : E0 Try.prog 25 fun E => n8 E Ed0 := G2 mx Try.func25 (by kernel_rfl) (i8 (by kernel_rfl))
theorem b26 : E0 Try.prog 26 fun E => n8 E Ed1 := G2 mx Try.func26 (by kernel_rfl) (i8 (by kernel_rfl))
theorem b27 : E0 Try.prog 27 fun E => n8 E Ed2 := G2 mx Try.func27 (by kernel_rfl) (i8 (by kernel_rfl))
theorem b28 : E0 Try.prog 28 fun E => hb5 E id8 := od0 (h := h28) mx Try.func28 (by kernel_rfl) Try.func72 (by kernel_rfl) (i8 (by kernel_rfl))
theorem b29 : E0 Try.prog 29 fun E => n8 E yd8 := G2 mx Try.func29 (by kernel_rfl) (i8 (by kernel_rfl))
theorem b30 : E0 Try.prog 30 fun E => n8 E Ed3 := G2 mx Try.func30 (by kernel_rfl) (i8 (by kernel_rfl))
theorem b31 : E0 Try.prog 31 fun E => n8 E yd9 := G2 mx Try.func31 (by kernel_rfl) (i8 (by kernel_rfl))
theorem b32 : E0 Try.prog 32 fun E => n8 E Ed4 := G2 mx Try.func32 (by kernel_rfl) (i8 (by kernel_rfl))
theorem b34 : E0 Try.prog 34 fun E => n8 E Ed5 := G2 mx Try.func34 (by kernel_rfl) (i8 (by kernel_rfl))
theorem b35 : E0 Try.prog 35 fun E => n8 E sd5 := G2 mx Try.func35 (by kernel_rfl) (i8 (by kernel_rfl))
theorem b36 : E0 Try.prog 36 fun E => n8 E Ed6 := G2 mx Try.func36 (by kernel_rfl) (i8 (by kernel_rfl))
theorem b37 : E0 Try.prog 37 fun E => n8 E Ed7 := G2 mx Try.func37 (by kernel_rfl) (i8 (by kernel_rfl))
theorem b38 : E0 Try.prog 38 fun E => n8 E Ed8 := G2 mx Try.func38 (by kernel_rfl) (i8 (by kernel_rfl))
theorem b39 : E0 Try.prog 39 fun E => n8 E Ed9 := G2 mx Try.func39 (by kernel_rfl) (i8 (by kernel_rfl))
theorem b40 : E0 Try.prog 40 fun E => n8 E Fd0 := G2 mx Try.func40 (by kernel_rfl) (i8 (by kernel_rfl))
theorem b41 : E0 Try.prog 41 fun E => n8 E Fd1 := G2 mx Try.func41 (by kernel_rfl) (i8 (by kernel_rfl))
theorem b42 : E0 Try.prog 42 fun E => n8 E Fd2 := G2 mx Try.func42 (by kernel_rfl) (i8 (by kernel_rfl))
theorem b43 : E0 Try.prog 43 fun E => n8 E Fd3 := G2 mx Try.func43 (by kernel_rfl) (i8 (by kernel_rfl))
theorem b44 : E0 Try.prog 44 fun E => n8 E Fd4 := G2 mx Try.func44 (by kernel_rfl) (i8 (by kernel_rfl))
theorem b45 : E0 Try.prog 45 fun E => n8 E Fd5 := G2 mx Try.func45 (by kernel_rfl) (i8 (by kernel_rfl))
theorem b46 : E0 Try.prog 46 fun E => n8 E Fd6 := G2 mx Try.func46 (by kernel_rfl) (i8 (by kernel_rfl))
theorem b47 : E0 Try.prog 47 fun E => n8 E Fd7 := G2 mx Try.func47 (by kernel_rfl) (i8 (by kernel_rfl))
theorem b48 : E0 Try.prog 48 fun E => n8 E Fd8 := G2 mx Try.func48 (by kernel_rfl) (i8 (by kernel_rfl))
theorem b49 : E0 Try.prog 49 fun E => n8 E Fd9 := G2 mx Try.func49 (by kernel_rfl) (i8 (by kernel_rfl))
theorem b50 : E0 Try.prog 50 fun E => n8 E Gd0 := G2 mx Try.func50 (by kernel_rfl) (i8 (by kernel_rfl))
theorem b51 : E0 Try.prog 51 fun E => n8 E Gd1 := G2 mx Try.func51 (by kernel_rfl) (i8 (by kernel_rfl))
theorem b52 : E0 Try.prog 52 fun E => hb5 E sd6 := od0 (h := h52) mx Try.func52 (by kernel_rfl) Try.func71 (by kernel_rfl) (i8 (by kernel_rfl))
theorem b53 : E0 Try.prog 53 fun E => n8 E zd0 := G2 mx Try.func53 (by kernel_rfl) (i8 (by kernel_rfl))
theorem b54 : E0 Try.prog 54 fun E => n8 E Gd2 := G2 mx Try.func54 (by kernel_rfl) (i8 (by kernel_rfl))
theorem b55 : E0 Try.prog 55 fun E => n8 E id9 := G2 mx Try.func55 (by kernel_rfl) (i8 (by kernel_rfl))
theorem b58 : E0 Try.prog 58 fun E => n8 E Gd3 := G2 mx Try.func58 (by kernel_rfl) (i8 (by kernel_rfl))
theorem b59 : E0 Try.prog 59 fun E => n8 E Gd4 := G2 mx Try.func59 (by kernel_rfl) (i8 (by kernel_rfl))
theorem b60 : E0 Try.prog 60 fun E => n8 E Gd5 := G2 mx Try.func60 (by kernel_rfl) (i8 (by kernel_rfl))
theorem b61 : E0 Try.prog 61 fun E => n8 E sd7 := G2 mx Try.func61 (by kernel_rfl) (i8 (by kernel_rfl))
theorem b62 : E0 Try.prog 62 fun E => n8 E Gd6 := G2 mx Try.func62 (by kernel_rfl) (i8 (by kernel_rfl))
theorem b63 : E0 Try.prog 63 fun E => n8 E zd1 := G2 mx Try.func63 (by kernel_rfl) (i8 (by kernel_rfl))
theorem b64 : E0 Try.prog 64 fun E => n8 E Gd7 := G2 mx Try.func64 (by kernel_rfl) (i8 (by kernel_rfl))
theorem b65 : E0 Try.prog 65 fun E => n8 E zd2 := G2 mx Try.func65 (by kernel_rfl) (i8 (by kernel_rfl))
theorem b66 : E0 Try.prog 66 fun E => n8 E Gd8 := G2 mx Try.func66 (by kernel_rfl) (i8 (by kernel_rfl))
theorem b67 : E0 Try.prog 67 fun E => n8 E Gd9 := G2 mx Try.func67 (by kernel_rfl) (i8 (by kernel_rfl))
theorem b68 : E0 Try.prog 68 fun E => n8 E Hd0 := G2 mx Try.func68 (by kernel_rfl) (i8 (by kernel_rfl))
theorem b69 : E0 Try.prog 69 fun E => n8 E sd8 := G2 mx Try.func69 (by kernel_rfl) (i8 (by kernel_rfl))
theorem b70 : E0 Try.prog 70 fun E => n8 E zd3 := G2 mx Try.func70 (by kernel_rfl) (i8 (by kernel_rfl))
theorem b72 : E0 Try.prog 72 fun E => n8 E zd4 := G2 mx Try.func72 (by kernel_rfl) (i8 (by kernel_rfl))
theorem b73 : E0 Try.prog 73 fun E => n8 E Hd1 := G2 mx Try.func73 (by kernel_rfl) (i8 (by kernel_rfl))
theorem b74 : E0 Try.prog 74 fun E => n8 E sd9 := G2 mx Try.func74 (by kernel_rfl) (i8 (by kernel_rfl))
theorem b85 : E0 Try.prog 85 fun E => n8 E zd5 := G2 mx Try.func85 (by kernel_rfl) (i8 (by kernel_rfl))
theorem b86 : E0 Try.prog 86 fun E => n8 E zd6 := G2 mx Try.func86 (by kernel_rfl) (i8 (by kernel_rfl))
theorem b87 : E0 Try.prog 87 fun E => n8 E Hd2 := G2 mx Try.func87 (by kernel_rfl) (i8 (by kernel_rfl))
theorem b88 : E0 Try.prog 88 fun E => n8 E Hd3 := G2 mx Try.func88 (by kernel_rfl) (i8 (by kernel_rfl))
end Go.Ev.Ce
end
namespace Go.Ev.L
open Go Go.Ev
noncomputable def hb9 : RT → PC → PS2
 | .s a b, .seq x y => .seq (hb9 a x) (hb9 b y)
 | .c a b, .cond g x y => .cond g (hb9 a x) (hb9 b y)
 | .b a, .block id x => .block id (hb9 a x)
 | .i a, .inner f x n c => .inner f x n (hb9 a c)
 | .u S, _ => .sum S
 | _, c => .pc c
theorem kc9 {E : Env} {k : Nat} (rt : RT) (c : PC) : ta3 (fun x => ∀ s, O7 (x.1 s) (H5 E k x.2 s)) (ob0 rt c) → Y0 E k (hb9 rt c) c := by
 induction rt generalizing c with
 | p => intro h; cases c <;> exact .pc _
 | s a b iha ihb =>
  intro h
  cases c with
  | seq x y => exact .seq (iha x (ta3.app h).1) (ihb y (ta3.app h).2)
  | _ => exact .pc _
 | c a b iha ihb =>
  intro h
  cases c with
  | cond g x y => exact .cond g (iha x (ta3.app h).1) (ihb y (ta3.app h).2)
  | _ => exact .pc _
 | b a iha =>
  intro h
  cases c with
  | block id x => exact .block id (iha x h)
  | _ => exact .pc _
 | l a iha => intro h; cases c <;> exact .pc _
 | i a iha =>
  intro h
  cases c with
  | inner f x n c => exact .inner f x n (iha c h)
  | _ => exact .pc _
 | u S =>
  intro h
  have : ob0 (.u S) c = [(S, c)] := by cases c <;> rfl
  rw [this] at h
  cases h with
  | cons h t =>
   have e : hb9 (.u S) c = .sum S := by cases c <;> rfl
   rw [e]
   exact .sum h
section
variable {π σ : Type} {E : Env} {k : Nat} {keep : List Nat} {alts : List (Al2 π σ)} {enc : π → σ → St} {step : π → σ → Stp σ} {xs : Xs π σ} {body : PS2} {c : PC}
theorem gb2.belowM (hb : Y0 E k body c) (hN : E.N = rounds + 1) (w : gb2 vc2 k keep (Eb2 E k body) alts step xs enc) (s : St) : O7 (ec1 vc2 k keep alts step xs s) (H5 E k (.loopM keep c) s) := fun r hr => by
 obtain ⟨t, h1, h2⟩ := w.go hr
 rw [Ec5, hN]
 exact Xa1 hb.le _ _ _ (mb2 h1 h2)
theorem gb2.belowML (hb : Y0 E k body c) (hN : E.N = rounds + 1) (w : gb2 fb9 k keep (Eb2 E k body) alts step xs enc) (s : St) : O7 (ec1 fb9 k keep alts step xs s) (H5 E k (.loop keep c) s) := fun r hr => by
 obtain ⟨t, h1, h2⟩ := w.go hr
 rw [ec0, hN]
 exact Xa1 hb.le _ _ _ (mb2 h1 h2)
end
end Go.Ev.L
namespace Go.Ev.Ab
open Go Go.Ev
@[reducible] def o (d : Nat) (x : PO) : PI := ⟨some d, none, [], x⟩
@[reducible] def s (x : PO) : PI := ⟨none, none, [], x⟩
@[reducible] def cb (b : Bool) : Arg := .c (.v (.bool b))
@[reducible] def vi (n : Int) : a7 := .v (.int .i64 n)
@[reducible] def rep {α : Type} (n : Nat) (x : α) : List α := List.replicate n x
@[reducible] def ki (n : Nat) : List CK := List.replicate n (.int .i64)
@[reducible] def mv (d n : Nat) : PI := o d (.mv (.t n))
@[reducible] def mb (d : Nat) (x : Bool) : PI := o d (.mv (cb x))
@[reducible] def fd (d k n : Nat) : PI := o d (.fld k (.t n))
@[reducible] def ex (d x k : Nat) : PI := o d (.ext (.t x) k)
@[reducible] def so (l : List PI) (x : PC) : PC := .seq (.ops l) x
@[reducible] def ts (l : List Nat) : List Arg := l.map .t
@[reducible] def cl (f : Nat) (l : List Nat) : PO := .call f (ts l)
@[reducible] def sT (k a b : Nat) : PI := s (.store k (.t a) (.t b))
@[reducible] def pa (d c x : Nat) : PI := o d (.pick (.t c) (.t x) (cb false))
@[reducible] def po (d c x : Nat) : PI := o d (.pick (.t c) (cb true) (.t x))
@[reducible] def al (d k : Nat) (n : Int) : PI := o d (.alloc (rep k (vi n)))
@[reducible] def ap (d et es n x y : Nat) : PI := o d (.append et es n (.t x) (.t y))
end Go.Ev.Ab
namespace Go.Ev.L
open Go Go.Ev
def Cps {π σ : Type} (u : ∀ {α : Type}, (σ → α) → (Nat → α) → α → π → σ → α) : Prop :=
 ∀ {α β : Type} (F : α → β) (k : σ → α) (e : Nat → α) (z : α) (p : π) (s : σ), F (u k e z p s) = u (fun x => F (k x)) (fun t => F (e t)) (F z) p s
@[reducible] noncomputable def foL {π σ : Type} (en : π → σ → St) (xs : Xs π σ) (p : π) (s : σ) : Stp σ → Option (c7 × St) := gb0 (fun s' => some (.normal, en p s')) (fun t => xOf xs p s t 1) none
structure Lo (π σ : Type) where
 E : Env
 k : Nat
 F : PFn
 at' : List Nat
 kp : List Nat
 rt : RT
 al : List (Al2 π σ)
 st : π → σ → Stp σ
 xs : Xs π σ
 en : π → σ → St
namespace Lo
variable {π σ : Type} (L : Lo π σ)
noncomputable def lc : PC := Cd6 L.at' L.F.body
noncomputable def ls : St → DT (c7 × St) := ec1 fb9 L.k L.kp L.al L.st L.xs
noncomputable def lsM : St → DT (c7 × St) := ec1 vc2 L.k L.kp L.al L.st L.xs
noncomputable def pr : (St → DT (c7 × St)) × PC := (L.ls, .loop L.kp L.lc)
noncomputable def prM : (St → DT (c7 × St)) × PC := (L.lsM, .loopM L.kp L.lc)
def Ok : Prop := ∀ s, S7 L.k L.F.res (L.pr.1 s) (H5 L.E L.k L.pr.2 s)
def OkE : Prop := ∀ s, O7 (L.pr.1 s) (H5 L.E L.k L.pr.2 s)
def OkM : Prop := ∀ s, O7 (L.prM.1 s) (H5 L.E L.k L.prM.2 s)
def Rd (hd : St → DT St) (bd : St → DT (c7 × St)) (p : π) (s : σ) (a : St) (b : Stp σ) : Prop := (Xa2 hd bd a).run = foL L.en L.xs p s b
def H0 : Prop := ∀ p s, L.Rd (fb9 L.k L.kp) (Ic1 L.E L.k L.F.res (Xb6 L.rt L.lc)) p s (L.en p s) (L.st p s)
def H1 : Prop := ∀ p s, L.Rd (fb9 L.k L.kp) (Eb2 L.E L.k (hb9 L.rt L.lc)) p s (L.en p s) (L.st p s)
def H2 : Prop := ∀ p s, L.Rd (vc2 L.k L.kp) (Eb2 L.E L.k (hb9 L.rt L.lc)) p s (L.en p s) (L.st p s)
def HA : Prop := ta3 (fun x => ∀ a H, (⟨Pc0 x.sh a, Pc1 x.bl H⟩ : St) = L.en (x.rd a H).1 (x.rd a H).2) L.al
variable {L}
theorem Rd.of {hd : St → DT St} {bd : St → DT (c7 × St)} {p : π} {s : σ} {a : St} (u : ∀ {α : Type}, (σ → α) → (Nat → α) → α → π → σ → α)
  (q : Cps @u) (H : (Xa2 hd bd a).run = u (fun x => foL L.en L.xs p s (.next x)) (fun t => foL L.en L.xs p s (.exit t)) (foL L.en L.xs p s .fail) p s) : L.Rd hd bd p s a (u .next .exit .fail p s) :=
 H.trans (q (foL L.en L.xs p s) Stp.next Stp.exit Stp.fail p s).symm
theorem Rd.sel {hd : St → DT St} {bd : St → DT (c7 × St)} {p : π} {s : σ} {a1 a0 : St} {b1 b0 : Stp σ} (c : Bool) (h1 : L.Rd hd bd p s a1 b1) (h0 : L.Rd hd bd p s a0 b0) : L.Rd hd bd p s (sel c a1 a0) (sel c b1 b0) := by
 cases c with
 | true => exact h1
 | false => exact h0
theorem ok (l : List ((St → DT (c7 × St)) × PC)) (hs : ob0 L.rt L.lc = l) (hl : ta3 (fun x => ∀ s, S7 L.k L.F.res (x.1 s) (H5 L.E L.k x.2 s)) l) (hN : L.E.N = rounds + 1) (ha : L.HA) (h : L.H0) : L.Ok :=
 gb2.belowC (Ic9 _ _ (by rw [hs]; exact hl)) hN ⟨ha, h⟩
theorem okE (l : List ((St → DT (c7 × St)) × PC)) (hs : ob0 L.rt L.lc = l) (hl : ta3 (fun x => ∀ s, O7 (x.1 s) (H5 L.E L.k x.2 s)) l) (hN : L.E.N = rounds + 1) (ha : L.HA) (h : L.H1) : L.OkE :=
 gb2.belowML (kc9 _ _ (by rw [hs]; exact hl)) hN ⟨ha, h⟩
theorem okM (l : List ((St → DT (c7 × St)) × PC)) (hs : ob0 L.rt L.lc = l) (hl : ta3 (fun x => ∀ s, O7 (x.1 s) (H5 L.E L.k x.2 s)) l) (hN : L.E.N = rounds + 1) (ha : L.HA) (h : L.H2) : L.OkM :=
 gb2.belowM (kc9 _ _ (by rw [hs]; exact hl)) hN ⟨ha, h⟩
end Lo
theorem cb0 {E : Env} {F : PFn} {args : List a7} {blks : List a8} {o : Option (a7 × List a8)} (rt : RT) (l : List ((St → DT (c7 × St)) × PC)) (hs : ob0 rt F.body = l)
  (hl : ta3 (fun x => ∀ s, S7 (len blks) F.res (x.1 s) (H5 E (len blks) x.2 s)) l) (h : (xd5 E F (Xb6 rt F.body) args blks).run = o) (r : a7 × List a8) (hr : o = some r) : (n8 E F args blks).run = some r :=
 Cc6 (Ic9 rt _ (by rw [hs]; exact hl)) r (h.trans hr)
theorem od1 {E : Env} {F : PFn} {args : List a7} {blks : List a8} {o : Option (a7 × List a8)} (rt : RT) (l : List ((St → DT (c7 × St)) × PC)) (hs : ob0 rt F.body = l)
  (hl : ta3 (fun x => ∀ s, O7 (x.1 s) (H5 E (len blks) x.2 s)) l) (h : (nd9 E F (hb9 rt F.body) args blks).run = o) (r : a7 × List a8) (hr : o = some r) : (hb5 E F args blks).run = some r :=
 vc1 (kc9 rt _ (by rw [hs]; exact hl)) r (h.trans hr)
theorem C6 {A o : Option (a7 × List a8)} (h : A = o) (r : a7 × List a8) (hr : o = some r) : A = some r := h.trans hr
end Go.Ev.L
namespace Go.Ev.Ce
structure V3 where
 x : Int
 y : Int
 z : Int
structure Pln where
 n : V3
 b : Int
structure Pt where
 px : Int
 py : Int
 pz : Int
 pw : Int
def o4 (a b : V3) : V3 := ⟨a.y * b.z - a.z * b.y, a.z * b.x - a.x * b.z, a.x * b.y - a.y * b.x⟩
def dot (a b : V3) : Int := a.x * b.x + a.y * b.y + a.z * b.z
def mw (p q r : Pln) : Int := dot p.n (o4 q.n r.n)
end Go.Ev.Ce
namespace Go.Ev.Ce
open Go Go.Ev Go.Ev.L Go.Proofs
@[reducible] noncomputable def prog : Program := Try.prog
noncomputable def G : Nat → List Value := fun _ => []
noncomputable def En (l : List (Nat × Sum)) : Env := { P := prog, G, fns := fun _ => none, call := qd4 l, own := fun f j => Bool.and (Aa0 f [29, 33, 35, 55]) (Nat.beq j 0), N := 18446744073709551616 }
@[reducible] def u : a7 := .v (.tuple #[])
theorem zd7 {l : List (Nat × Sum)} (h : m8 prog G l) : ∀ f, i6 (En l).P (En l).G f ((En l).call f) := Hc9 h
theorem bd {l : List (Nat × Sum)} {f : FuncId} {R : Env → Sum} (b : E0 prog f R) (h : m8 prog G l) : i6 prog G f (R (En l)) := b rfl (zd7 h)
noncomputable def tV : Ty V3 where
 es := 3
 row x := [i x.x, i x.y, i x.z]
 rd r := ⟨toI (hdA r), toI (hdA (tlA r)), toI (hdA (tlA (tlA r)))⟩
 ok r := ia3 3 r
 cks := List.replicate 3 (.int .i64)
 d := ⟨0, 0, 0⟩
 h0 _ := rfl
 h1 _ := rfl
 h2 _ := rfl
 h3 _ h := .of (xa2 h)
 h4 _ := rfl
 h5 _ := rfl
noncomputable def r1V : R1 V3 := r1A tV 3 fun _ h => h
noncomputable def tP : Ty Pln where
 es := 4
 row x := [i x.n.x, i x.n.y, i x.n.z, i x.b]
 rd r := ⟨⟨toI (hdA r), toI (hdA (tlA r)), toI (hdA (tlA (tlA r)))⟩, toI (hdA (tlA (tlA (tlA r))))⟩
 ok r := ia3 4 r
 cks := List.replicate 4 (.int .i64)
 d := ⟨⟨0, 0, 0⟩, 0⟩
 h0 _ := rfl
 h1 _ := rfl
 h2 _ := rfl
 h3 _ h := .of (xa2 h)
 h4 _ := rfl
 h5 _ := rfl
noncomputable def r1P : R1 Pln := r1A tP 4 fun _ h => h
noncomputable def tX : Ty Pt where
 es := 4
 row x := [i x.px, i x.py, i x.pz, i x.pw]
 rd r := ⟨toI (hdA r), toI (hdA (tlA r)), toI (hdA (tlA (tlA r))), toI (hdA (tlA (tlA (tlA r))))⟩
 ok r := ia3 4 r
 cks := List.replicate 4 (.int .i64)
 d := ⟨0, 0, 0, 0⟩
 h0 _ := rfl
 h1 _ := rfl
 h2 _ := rfl
 h3 _ h := .of (xa2 h)
 h4 _ := rfl
 h5 _ := rfl
noncomputable def r1X : R1 Pt := r1A tX 4 fun _ h => h
structure Tp where
 p : Pln
 q : Pln
 r : Pln
noncomputable def tY : Ty Tp where
 es := 12
 row x := [i x.p.n.x, i x.p.n.y, i x.p.n.z, i x.p.b, i x.q.n.x, i x.q.n.y, i x.q.n.z, i x.q.b, i x.r.n.x, i x.r.n.y, i x.r.n.z, i x.r.b]
 rd r := ⟨⟨⟨toI (hdA r), toI (hdA (tlA r)), toI (hdA (tlA (tlA r)))⟩, toI (hdA (tlA (tlA (tlA r))))⟩, ⟨⟨toI (hdA (tlA (tlA (tlA (tlA r))))), toI (hdA (tlA (tlA (tlA (tlA (tlA r)))))), toI (hdA (tlA (tlA (tlA (tlA (tlA (tlA r)))))))⟩, toI (hdA (tlA (tlA (tlA (tlA (tlA (tlA (tlA r))))))))⟩, ⟨⟨toI (hdA (tlA (tlA (tlA (tlA (tlA (tlA (tlA (tlA r))))))))), toI (hdA (tlA (tlA (tlA (tlA (tlA (tlA (tlA (tlA (tlA r)))))))))), toI (hdA (tlA (tlA (tlA (tlA (tlA (tlA (tlA (tlA (tlA (tlA r)))))))))))⟩, toI (hdA (tlA (tlA (tlA (tlA (tlA (tlA (tlA (tlA (tlA (tlA (tlA r))))))))))))⟩⟩
 ok r := ia3 12 r
 cks := List.replicate 12 (.int .i64)
 d := ⟨⟨⟨0, 0, 0⟩, 0⟩, ⟨⟨0, 0, 0⟩, 0⟩, ⟨⟨0, 0, 0⟩, 0⟩⟩
 h0 _ := rfl
 h1 _ := rfl
 h2 _ := rfl
 h3 _ h := .of (xa2 h)
 h4 _ := rfl
 h5 _ := rfl
structure Q2 where
 a : V3
 b : V3
end Go.Ev.Ce
section
namespace Go.Ev.Ce
open Go Go.Ev Go.Ev.L Go.Proofs
set_option maxRecDepth 100000
noncomputable def Ec6 : List (Nat × Sum) := []
theorem vc3 : m8 prog G Ec6 := trivial
noncomputable def mb9 (x : V3) (y : V3) : Int := (W ((W ((W (x.x * y.x)) + (W (x.y * y.y)))) + (W (x.z * y.z))))
noncomputable def fc1 : Sum := oa3 (ia2 tV) (ia2 tV) (fun x y => .ret ((one r1I).enc (mb9 x y), []))
theorem Ec7 : i6 prog G 68 fc1 := ta2 (bd b68 vc3) fun x y => C6 (by kernel_rfl)
noncomputable def lc0 : List (Nat × Sum) := []
theorem Xb7 : m8 prog G lc0 := trivial
noncomputable def Aa3 (x : V3) (y : V3) : V3 := (⟨(W ((W (x.y * y.z)) - (W (x.z * y.y)))), (W ((W (x.z * y.x)) - (W (x.x * y.z)))), (W ((W (x.x * y.y)) - (W (x.y * y.x))))⟩ : V3)
noncomputable def Hb9 : Sum := oa3 (ia2 tV) (ia2 tV) (fun x y => .ret ((one r1V).enc (Aa3 x y), []))
theorem lc1 : i6 prog G 66 Hb9 := ta2 (bd b66 Xb7) fun x y => C6 (by kernel_rfl)
noncomputable def Pa2 : List (Nat × Sum) := []
theorem sb3 : m8 prog G Pa2 := trivial
@[reducible] noncomputable def xa3 : Sum := n8 (En Pa2) zd6
theorem Pa3 : i6 prog G 86 xa3 := bd b86 sb3
noncomputable def Jb3 : List (Nat × Sum) := []
theorem Eb3 : m8 prog G Jb3 := trivial
noncomputable def ja5 (x : Int) : Option (a7 × List a8) := (sl (decide (x < 0)) (some ((i (W (0 - x))), [])) (some ((i x), [])))
noncomputable def ca7 (x : Int) : Int := ea8 (one r1I) (ja5 x)
noncomputable def ca8 (x : Int) : Bool := okO (one r1I) (ja5 x)
noncomputable def ib0 : Sum := ra1 cI (fun x => .guard (ca8 x) (.ret ((one r1I).enc (ca7 x), [])))
theorem Jb4 : i6 prog G 87 ib0 := Ta3 (bd b87 Eb3) (one r1I) (o := ja5) fun x => C6 (by kernel_rfl)
noncomputable def Ib0 : List (Nat × Sum) := [(87, ib0), (86, xa3)]
theorem lc2 : m8 prog G Ib0 := ⟨Jb4, Pa3, trivial⟩
structure Z8 where
 is6 : Int
 n5 : Int
 f0 : Int
 n7 : Int
 Y3 : Int
 Y4 : Int
 Y5 : Int
structure K7 where
 is5 : Int
 is7 : Int
noncomputable def Xb8 (p : Z8) (s : K7) : St := ⟨(.unk :: ((.ptr 0 0 0 0) :: ((.ptr 1 0 0 0) :: (.unk :: ((.ptr 2 0 0 0) :: ((i s.is5) :: ((i p.is6) :: ((i s.is7) :: (ra 38 []))))))))), [⟨0, 3, [[(i p.n5), (i p.f0), (i p.n7)]], true, false, 0⟩, ⟨0, 3, [[(i 0), (i 0), (i 0)]], true, false, 0⟩, ⟨0, 3, [[(i p.Y3), (i p.Y4), (i p.Y5)]], true, false, 0⟩]⟩
noncomputable def ja6 {α : Type} (k : K7 → α) (e : Nat → α) (z : α) (p : Z8) (s : K7) : α := (sl (decide (s.is7 > 0)) (sl (s.is7 == 0) z (k ⟨s.is7, (Int.tmod s.is5 s.is7)⟩)) (e 1))
noncomputable def V1 (p : Z8) (s : K7) : Stp K7 := ja6 .next .exit .fail p s
noncomputable def Ya0 : Lo Z8 K7 := ⟨En Ib0, 0, zd2, [1, 1, 1, 0, 1, 4, 4, 1, 0, 4, 1, 1, 4, 4], [1, 2, 4, 5, 6, 7], .p, [⟨((.s (.o .unk)) :: ((.s (.o (.ptr 0 0 0 0))) :: ((.s (.o (.ptr 1 0 0 0))) :: ((.s (.o .unk)) :: ((.s (.o (.ptr 2 0 0 0))) :: ((.s (.o (.int .i64))) :: ((.s (.o (.int .i64))) :: ((.s (.o (.int .i64))) :: (ru2 38 []))))))))), [⟨0, 3, true, (some [[(.o (.int .i64)), (.o (.int .i64)), (.o (.int .i64))]])⟩, ⟨0, 3, true, (some [[(.o (.lit .i64 0)), (.o (.lit .i64 0)), (.o (.lit .i64 0))]])⟩, ⟨0, 3, true, (some [[(.o (.int .i64)), (.o (.int .i64)), (.o (.int .i64))]])⟩], fun a H => (⟨(toI (slT a 6)), (toI (slT (rwT (elT H 0) 0) 0)), (toI (slT (rwT (elT H 0) 0) 1)), (toI (slT (rwT (elT H 0) 0) 2)), (toI (slT (rwT (elT H 2) 0) 0)), (toI (slT (rwT (elT H 2) 0) 1)), (toI (slT (rwT (elT H 2) 0) 2))⟩, ⟨(toI (slT a 5)), (toI (slT a 7))⟩)⟩], V1, [(some 2, fun p s => ⟨(.unk :: ((.ptr 0 0 0 0) :: ((.ptr 1 0 0 0) :: (.unk :: ((.ptr 2 0 0 0) :: ((i s.is5) :: ((i p.is6) :: ((i s.is7) :: (ra 15 ((i s.is7) :: ((b (decide (s.is7 > 0))) :: (ra 21 [])))))))))))), [⟨0, 3, [[(i p.n5), (i p.f0), (i p.n7)]], true, false, 0⟩, ⟨0, 3, [[(i 0), (i 0), (i 0)]], true, false, 0⟩, ⟨0, 3, [[(i p.Y3), (i p.Y4), (i p.Y5)]], true, false, 0⟩]⟩)], Xb8⟩
theorem Xb9 : Ya0.Ok := Lo.ok [] (by kernel_rfl) .nil rfl (.cons (fun a H => by kernel_rfl) .nil) fun p s => (.of @ja6 (fun F _ _ _ _ _ => by unfold ja6; (repeat' apply z8 (f := F)) <;> rfl) (by kernel_rfl))
noncomputable def Ja6 (x : V3) : Option (a7 × List a8) := let t1 := (ca7 x.x); let t2 := (lp (V1 (⟨0, x.x, x.y, x.z, x.x, x.y, x.z⟩ : Z8)) (⟨0, t1⟩ : K7)); let t3 := (ca7 x.y); let t4 := (lp (V1 (⟨1, x.x, x.y, x.z, x.x, x.y, x.z⟩ : Z8)) (⟨t2.2.is5, t3⟩ : K7)); let t5 := (ca7 x.z); let t6 := (lp (V1 (⟨2, x.x, x.y, x.z, x.x, x.y, x.z⟩ : Z8)) (⟨t4.2.is5, t5⟩ : K7)); (sl (x.x == (-9223372036854775808)) (some ((.tup [(.agg [(i 0), (i 0), (i 0)]), (i 0)]), [])) (sl (ca8 x.x) (sl (Nat.beq t2.1 1) (sl (x.y == (-9223372036854775808)) (some ((.tup [(.agg [(i 0), (i 0), (i 0)]), (i 0)]), [])) (sl (ca8 x.y) (sl (Nat.beq t4.1 1) (sl (x.z == (-9223372036854775808)) (some ((.tup [(.agg [(i 0), (i 0), (i 0)]), (i 0)]), [])) (sl (ca8 x.z) (sl (Nat.beq t6.1 1) (sl (t6.2.is5 == 0) (some ((.tup [(.agg [(i 0), (i 0), (i 0)]), (i 0)]), [])) (sl (t6.2.is5 == 0) none (sl (t6.2.is5 == 0) none (sl (t6.2.is5 == 0) none (some ((.tup [(.agg [(i (W (Int.tdiv x.x t6.2.is5))), (i (W (Int.tdiv x.y t6.2.is5))), (i (W (Int.tdiv x.z t6.2.is5)))]), (i t6.2.is5)]), [])))))) none) none)) none) none)) none) none))
noncomputable def xa4 (x : V3) : V3 × Int := ea8 (two r1V r1I) (Ja6 x)
noncomputable def Ya1 (x : V3) : Bool := okO (two r1V r1I) (Ja6 x)
noncomputable def Sb8 : Sum := ra1 (ia2 tV) (fun x => .guard (Ya1 x) (.ret ((two r1V r1I).enc (xa4 x), [])))
theorem vc4 : i6 prog G 65 Sb8 := Ta3 (bd b65 lc2) (two r1V r1I) (o := Ja6) fun x => cb0 (.s .p (.s .p (.s .p (.s (.s .p (.b (.l (.s .p (.s (.b (.s .p (.s .p (.b (.u Ya0.ls))))) .p))))) .p)))) [Ya0.pr] (by kernel_rfl) (.cons Xb9 .nil) (by kernel_rfl)
noncomputable def Ec8 : List (Nat × Sum) := []
theorem vc5 : m8 prog G Ec8 := trivial
noncomputable def Ta7 (x : Int) (y : Int) : Option (a7 × List a8) := (sl (decide (y < 1)) (some ((i 0), [])) (sl (y == 0) none (sl (y == 0) none (some ((i (Int.tmod (W ((Int.tmod x y) + y)) y)), [])))))
noncomputable def Ta8 (x : Int) (y : Int) : Int := ea8 (one r1I) (Ta7 x y)
noncomputable def Ha8 (x : Int) (y : Int) : Bool := okO (one r1I) (Ta7 x y)
noncomputable def Eb4 : Sum := oa3 cI cI (fun x y => .guard (Ha8 x y) (.ret ((one r1I).enc (Ta8 x y), [])))
theorem Sb9 : i6 prog G 44 Eb4 := Db2 (bd b44 vc5) (one r1I) (o := Ta7) fun x y => C6 (by kernel_rfl)
end Go.Ev.Ce
end
section
namespace Go.Ev.Ce
open Go Go.Ev Go.Ev.L Go.Proofs
set_option maxRecDepth 100000
noncomputable def lc3 : List (Nat × Sum) := []
theorem Yb0 : m8 prog G lc3 := trivial
noncomputable def Z9 (x : V3) (y : V3) : Int := (W ((W ((W (x.x * y.x)) + (W (x.y * y.y)))) + (W (x.z * y.z))))
noncomputable def Pa4 : Sum := oa3 (ia2 tV) (ia2 tV) (fun x y => .ret ((one r1I).enc (Z9 x y), []))
theorem Ya2 : i6 prog G 47 Pa4 := ta2 (bd b47 Yb0) fun x y => C6 (by kernel_rfl)
noncomputable def lc4 : List (Nat × Sum) := []
theorem Yb1 : m8 prog G lc4 := trivial
noncomputable def L4 (x : V3) (y : V3) : V3 := (⟨(W (x.x + y.x)), (W (x.y + y.y)), (W (x.z + y.z))⟩ : V3)
noncomputable def ib1 : Sum := oa3 (ia2 tV) (ia2 tV) (fun x y => .ret ((one r1V).enc (L4 x y), []))
theorem yb2 : i6 prog G 6 ib1 := ta2 (bd b6 Yb1) fun x y => C6 (by kernel_rfl)
noncomputable def Yb2 : List (Nat × Sum) := []
theorem Tb0 : m8 prog G Yb2 := trivial
noncomputable def K8 (x : V3) (y : Int) : V3 := (⟨(W (x.x * y)), (W (x.y * y)), (W (x.z * y))⟩ : V3)
noncomputable def Ya3 : Sum := oa3 (ia2 tV) cI (fun x y => .ret ((one r1V).enc (K8 x y), []))
theorem pb7 : i6 prog G 24 Ya3 := ta2 (bd b24 Tb0) fun x y => C6 (by kernel_rfl)
noncomputable def Tb1 : List (Nat × Sum) := []
theorem Jb5 : m8 prog G Tb1 := trivial
noncomputable def K4 (x : V3) (y : V3) : V3 := (⟨(W ((W (x.y * y.z)) - (W (x.z * y.y)))), (W ((W (x.z * y.x)) - (W (x.x * y.z)))), (W ((W (x.x * y.y)) - (W (x.y * y.x))))⟩ : V3)
noncomputable def pb8 : Sum := oa3 (ia2 tV) (ia2 tV) (fun x y => .ret ((one r1V).enc (K4 x y), []))
theorem Tb2 : i6 prog G 73 pb8 := ta2 (bd b73 Jb5) fun x y => C6 (by kernel_rfl)
noncomputable def lc5 : List (Nat × Sum) := [(47, Pa4)]
theorem Yb3 : m8 prog G lc5 := ⟨Ya2, trivial⟩
noncomputable def ea9 (x : Pln) (y : Pt) : Int := let t1 := (Z9 x.n (⟨y.px, y.py, y.pz⟩ : V3)); (W ((W (x.b * y.pw)) - t1))
noncomputable def Pa5 : Sum := oa3 (ia2 tP) (ia2 tX) (fun x y => .ret ((one r1I).enc (ea9 x y), []))
theorem Ya4 : i6 prog G 32 Pa5 := ta2 (bd b32 Yb3) fun x y => C6 (by kernel_rfl)
noncomputable def ib2 : List (Nat × Sum) := []
theorem lc6 : m8 prog G ib2 := trivial
structure ma5 where
 na6 : List Int
 is7 : Int
 is8 : Int
structure aa0 where
 is3 : Int
 is5 : Int
noncomputable def Yb4 (p : ma5) (s : aa0) : St := ⟨(ra 3 ((i s.is3) :: (.unk :: ((i s.is5) :: ((eL tI p.na6) :: ((i p.is7) :: ((i p.is8) :: (ra 14 [])))))))), []⟩
noncomputable def ja7 {α : Type} (k : aa0 → α) (e : Nat → α) (z : α) (p : ma5) (s : aa0) : α := (sl (s.is5 != 0) (sl (s.is5 == 0) z (k ⟨s.is5, (Int.tmod s.is3 s.is5)⟩)) (e 1))
noncomputable def oa4 (p : ma5) (s : aa0) : Stp aa0 := ja7 .next .exit .fail p s
noncomputable def Ya5 : Lo ma5 aa0 := ⟨En ib2, 0, sd9, [1, 1, 0, 1, 4, 4, 1, 1, 0, 4, 1, 4, 4], [3, 5, 6, 7, 8], .p, [⟨(ru2 3 ((.s (.o (.int .i64))) :: ((.s (.o .unk)) :: ((.s (.o (.int .i64))) :: ((.s (.c 1 (nL tI))) :: ((.s (.o (.int .i64))) :: ((.s (.o (.int .i64))) :: (ru2 14 [])))))))), [], fun a H => (⟨(rL tI (slT a 6)), (toI (slT a 7)), (toI (slT a 8))⟩, ⟨(toI (slT a 3)), (toI (slT a 5))⟩)⟩], oa4, [(some 2, fun p s => ⟨(ra 3 ((i s.is3) :: (.unk :: ((i s.is5) :: ((eL tI p.na6) :: ((i p.is7) :: ((i p.is8) :: (ra 3 ((i s.is5) :: ((b (s.is5 != 0)) :: (ra 9 []))))))))))), []⟩)], Yb4⟩
theorem Yb5 : Ya5.Ok := Lo.ok [] (by kernel_rfl) .nil rfl (.cons (fun a H => by kernel_rfl) .nil) fun p s => (.of @ja7 (fun F _ _ _ _ _ => by unfold ja7; (repeat' apply z8 (f := F)) <;> rfl) (by kernel_rfl))
structure ta5 where
 is7 : Int
structure aa1 where
 is3 : Int
 na6 : List Int
 is8 : Int
noncomputable def Yb6 (p : ta5) (s : aa1) : St := ⟨(ra 3 ((i s.is3) :: (.unk :: (.unk :: ((eL tI s.na6) :: ((i p.is7) :: ((i s.is8) :: (ra 14 [])))))))), []⟩
noncomputable def ja8 {α : Type} (k : aa1 → α) (e : Nat → α) (z : α) (p : ta5) (s : aa1) : α := let t1 := (lp (oa4 (⟨(rt tI s.na6), p.is7, s.is8⟩ : ma5)) (⟨s.is3, (gL tI s.na6 s.is8.toNat)⟩ : aa0)); (sl (decide (s.is8 < p.is7)) (sl (inB s.is8 (List.length s.na6)) (sl ((cnE tI s.na6) && true) (sl (Nat.beq t1.1 1) (k ⟨t1.2.is3, (rt tI s.na6), (W (s.is8 + 1))⟩) z) z) z) (e 1))
noncomputable def ha6 (p : ta5) (s : aa1) : Stp aa1 := ja8 .next .exit .fail p s
noncomputable def Ya6 : Lo ta5 aa1 := ⟨En ib2, 0, sd9, [1, 1, 0, 1, 4, 4], [3, 6, 7, 8], (.s .p (.s .p (.s (.b (.s .p (.b (.u Ya5.ls)))) .p))), [⟨(ru2 3 ((.s (.o (.int .i64))) :: ((.s (.o .unk)) :: ((.s (.o .unk)) :: ((.s (.c 1 (nL tI))) :: ((.s (.o (.int .i64))) :: ((.s (.o (.int .i64))) :: (ru2 14 [])))))))), [], fun a H => (⟨(toI (slT a 7))⟩, ⟨(toI (slT a 3)), (rL tI (slT a 6)), (toI (slT a 8))⟩)⟩], ha6, [(some 0, fun p s => ⟨(ra 3 ((i s.is3) :: (.unk :: (.unk :: ((eL tI s.na6) :: ((i p.is7) :: ((i s.is8) :: ((b (decide (s.is8 < p.is7))) :: (ra 13 []))))))))), []⟩)], Yb6⟩
theorem Yb7 : Ya6.Ok := Lo.ok [Ya5.pr] (by kernel_rfl) (.cons Yb5 .nil) rfl (.cons (fun a H => by kernel_rfl) .nil) fun p s => (.of @ja8 (fun F _ _ _ _ _ => by unfold ja8; (repeat' apply z8 (f := F)) <;> rfl) (by kernel_rfl))
noncomputable def Ja7 (x : List Int) : Option (a7 × List a8) := let t1 := (lp (ha6 (⟨(↑(List.length x) : Int)⟩ : ta5)) (⟨0, (rt tI x), 0⟩ : aa1)); (sl ((cnE tI x) && true) (sl (Nat.beq t1.1 1) (some ((i (if (W (0 - t1.2.is3)) > t1.2.is3 then (W (0 - t1.2.is3)) else t1.2.is3)), [])) none) none)
noncomputable def Ya7 (x : List Int) : Int := ea8 (one r1I) (Ja7 x)
noncomputable def Ya8 (x : List Int) : Bool := okO (one r1I) (Ja7 x)
noncomputable def Tb3 : Sum := ra1 (Aa2 tI) (fun x => .guard (Ya8 x) (.ret ((one r1I).enc (Ya7 x), [])))
theorem vc6 : i6 prog G 74 Tb3 := Ta3 (bd b74 lc6) (one r1I) (o := Ja7) fun x => cb0 (.s .p (.s .p (.s (.s .p (.b (.u Ya6.ls))) .p))) [Ya6.pr] (by kernel_rfl) (.cons Yb7 .nil) (by kernel_rfl)
noncomputable def lc7 : List (Nat × Sum) := [(73, pb8), (47, Pa4), (24, Ya3), (6, ib1), (74, Tb3)]
theorem Yb8 : m8 prog G lc7 := ⟨Tb2, Ya2, pb7, yb2, vc6, trivial⟩
noncomputable def Aa4 (x : Tp) : Option (a7 × List a8) := let t1 := (K4 x.q.n x.r.n); let t3 := (K8 t1 x.p.b); let t4 := (L4 (⟨0, 0, 0⟩ : V3) t3); let t5 := (K4 x.r.n x.p.n); let t7 := (K8 t5 x.q.b); let t8 := (L4 t4 t7); let t9 := (K4 x.p.n x.q.n); let t10 := (Z9 x.r.n t9); let t11 := (K8 t9 x.r.b); let t12 := (L4 t8 t11); let t13 := (Ya7 [t12.x, t12.y, t12.z, t10]); (sl (t10 == 0) (some ((.tup [(.agg [(i 0), (i 0), (i 0), (i 0)]), (b false)]), [])) (sl (Ya8 [t12.x, t12.y, t12.z, t10]) (sl (decide (t10 < 0)) (sl ((W (0 - t13)) == 0) none (sl ((W (0 - t13)) == 0) none (sl ((W (0 - t13)) == 0) none (sl ((W (0 - t13)) == 0) none (some ((.tup [(.agg [(i (W (Int.tdiv t12.x (W (0 - t13))))), (i (W (Int.tdiv t12.y (W (0 - t13))))), (i (W (Int.tdiv t12.z (W (0 - t13))))), (i (W (Int.tdiv t10 (W (0 - t13)))))]), (b true)]), [])))))) (sl (t13 == 0) none (sl (t13 == 0) none (sl (t13 == 0) none (sl (t13 == 0) none (some ((.tup [(.agg [(i (W (Int.tdiv t12.x t13))), (i (W (Int.tdiv t12.y t13))), (i (W (Int.tdiv t12.z t13))), (i (W (Int.tdiv t10 t13)))]), (b true)]), []))))))) none))
noncomputable def Aa5 (x : Tp) : Pt × Bool := ea8 (two r1X r1B) (Aa4 x)
noncomputable def Aa6 (x : Tp) : Bool := okO (two r1X r1B) (Aa4 x)
noncomputable def Ib1 : Sum := ra1 (ia2 tY) (fun x => .guard (Aa6 x) (.ret ((two r1X r1B).enc (Aa5 x), [])))
theorem lc8 : i6 prog G 54 Ib1 := Ta3 (bd b54 Yb8) (two r1X r1B) (o := Aa4) fun x => C6 (by kernel_rfl)
structure qa1 where
 la5 : Int
 la6 : Int
 la7 : Int
 La9 : Int
 n5 : Int
 f0 : Int
 n7 : Int
 d7 : Int
noncomputable def Eb5 : List (Nat × Sum) := [(32, Pa5)]
theorem yb3 : m8 prog G Eb5 := ⟨Ya4, trivial⟩
structure ga0 where
 bs0 : Bool
noncomputable def ga1 {α : Type} (kk : ga0 → α) (x : qa1) : α := let t1 := (ea9 (⟨(⟨x.la5, x.la6, x.la7⟩ : V3), x.La9⟩ : Pln) (⟨x.n5, x.f0, x.n7, x.d7⟩ : Pt)); (kk ⟨(decide (t1 < 0))⟩)
noncomputable def Ca7 (x : qa1) : ga0 := ga1 (fun r => r) x
noncomputable def xa5 (x : qa1) (r : ga0) : DT (a7 × List a8) := .ret ((b r.bs0), [⟨0, 4, [[(i x.n5), (i x.f0), (i x.n7), (i x.d7)]], true, false, 0⟩])
theorem Jb6 {α β : Type} (F : α → β) (kk : ga0 → α) (x : qa1) : F (ga1 kk x) = ga1 (fun r => F (kk r)) x := by unfold ga1; (repeat' apply z8 (f := F)) <;> rfl
noncomputable def bb0 : Sum := Ja1 ⟨[(.agg [(.o (.int .i64)), (.o (.int .i64)), (.o (.int .i64)), (.o (.int .i64))]), (.s (.o (.ptr 0 0 0 0)))], [⟨0, 4, true, (some [[(.o (.int .i64)), (.o (.int .i64)), (.o (.int .i64)), (.o (.int .i64))]])⟩], fun a H => (⟨(toI (slT (cellsOf (slT a 0)) 0)), (toI (slT (cellsOf (slT a 0)) 1)), (toI (slT (cellsOf (slT a 0)) 2)), (toI (slT (cellsOf (slT a 0)) 3)), (toI (slT (rwT (elT H 0) 0) 0)), (toI (slT (rwT (elT H 0) 0) 1)), (toI (slT (rwT (elT H 0) 0) 2)), (toI (slT (rwT (elT H 0) 0) 3))⟩, ())⟩ (fun x => xa5 x (Ca7 x))
theorem Eb6 : i6 prog G 62 bb0 := L9 (enc := fun x => ⟨[(.agg [(i x.la5), (i x.la6), (i x.la7), (i x.La9)]), (.ptr 0 0 0 0)], [⟨0, 4, [[(i x.n5), (i x.f0), (i x.n7), (i x.d7)]], true, false, 0⟩]⟩) (fun a H => by kernel_rfl) (bd b62 yb3) fun x => C6 (Eq.trans (b := ga1 (fun r => (xa5 x r).run) x) (by kernel_rfl) (Jb6 (fun r => (xa5 x r).run) (fun r => r) x).symm)
structure M0 where
 w7 : List Pln
 n5 : Int
 f0 : Int
 n7 : Int
 d7 : Int
noncomputable def ja9 : List (Nat × Sum) := [(62, bb0)]
theorem Ga0 : m8 prog G ja9 := ⟨Eb6, trivial⟩
structure E1 where
 w7 : List Pln
 is7 : Int
 n5 : Int
 f0 : Int
 n7 : Int
 d7 : Int
structure k8 where
 is8 : Int
noncomputable def Ca8 (p : E1) (s : k8) : St := ⟨((eL tP p.w7) :: ((.fn 62 [(.ptr 0 0 0 0)]) :: (ra 5 ((i p.is7) :: ((i s.is8) :: (ra 10 [])))))), [⟨0, 4, [[(i p.n5), (i p.f0), (i p.n7), (i p.d7)]], true, false, 0⟩]⟩
noncomputable def A2 {α : Type} (k : k8 → α) (e : Nat → α) (z : α) (p : E1) (s : k8) : α := let t1 := (Ca7 ⟨(gL tP p.w7 s.is8.toNat).n.x, (gL tP p.w7 s.is8.toNat).n.y, (gL tP p.w7 s.is8.toNat).n.z, (gL tP p.w7 s.is8.toNat).b, p.n5, p.f0, p.n7, p.d7⟩); (sl (decide (s.is8 < p.is7)) (sl (inB s.is8 (List.length p.w7)) (sl t1.bs0 (e 1) (k ⟨(W (s.is8 + 1))⟩)) z) (e 2))
noncomputable def C8 (p : E1) (s : k8) : Stp k8 := A2 .next .exit .fail p s
noncomputable def S8 : Lo E1 k8 := ⟨En ja9, 1, id9, [1, 0, 1, 4, 4], [0, 1, 7, 8], .p, [⟨((.s (.c 4 (nL tP))) :: ((.fn 62 [(.o (.ptr 0 0 0 0))]) :: (ru2 5 ((.s (.o (.int .i64))) :: ((.s (.o (.int .i64))) :: (ru2 10 [])))))), [⟨0, 4, true, (some [[(.o (.int .i64)), (.o (.int .i64)), (.o (.int .i64)), (.o (.int .i64))]])⟩], fun a H => (⟨(rL tP (slT a 0)), (toI (slT a 7)), (toI (slT (rwT (elT H 0) 0) 0)), (toI (slT (rwT (elT H 0) 0) 1)), (toI (slT (rwT (elT H 0) 0) 2)), (toI (slT (rwT (elT H 0) 0) 3))⟩, ⟨(toI (slT a 8))⟩)⟩], C8, [(none, fun p s => ⟨[(i s.is8)], [⟨0, 4, [[(i p.n5), (i p.f0), (i p.n7), (i p.d7)]], true, false, 0⟩]⟩), (some 0, fun p s => ⟨((eL tP p.w7) :: ((.fn 62 [(.ptr 0 0 0 0)]) :: (ra 5 ((i p.is7) :: ((i s.is8) :: ((b (decide (s.is8 < p.is7))) :: (ra 9 []))))))), [⟨0, 4, [[(i p.n5), (i p.f0), (i p.n7), (i p.d7)]], true, false, 0⟩]⟩)], Ca8⟩
theorem Ca9 : S8.Ok := Lo.ok [] (by kernel_rfl) .nil rfl (.cons (fun a H => by kernel_rfl) .nil) fun p s => (.of @A2 (fun F _ _ _ _ _ => by unfold A2; (repeat' apply z8 (f := F)) <;> rfl) (by kernel_rfl))
structure M1 where
 alt : Nat
 is0 : Int
noncomputable def B0 {α : Type} (kk : M1 → α) (x : M0) : α := let t1 := (lp (C8 (⟨(rt tP x.w7), (↑(List.length x.w7) : Int), x.n5, x.f0, x.n7, x.d7⟩ : E1)) (⟨0⟩ : k8)); (sl ((cnE tP x.w7) && true) (sl (Nat.beq t1.1 1) (kk ⟨1, t1.2.is8⟩) (sl (Nat.beq t1.1 2) (kk ⟨1, (-1)⟩) (kk ⟨0, 0⟩))) (kk ⟨0, 0⟩))
noncomputable def M2 (x : M0) : M1 := B0 (fun r => r) x
noncomputable def W0 (x : M0) (r : M1) : DT (a7 × List a8) := (.ite (Nat.beq r.alt 1) (.ret ((i r.is0), [⟨0, 4, [[(i x.n5), (i x.f0), (i x.n7), (i x.d7)]], true, false, 0⟩])) .fail)
theorem Ma0 {α β : Type} (F : α → β) (kk : M1 → α) (x : M0) : F (B0 kk x) = B0 (fun r => F (kk r)) x := by unfold B0; (repeat' apply z8 (f := F)) <;> rfl
noncomputable def ma8 : Sum := Ja1 ⟨[(.s (.c 4 (nL tP))), (.fn 62 [(.o (.ptr 0 0 0 0))])], [⟨0, 4, true, (some [[(.o (.int .i64)), (.o (.int .i64)), (.o (.int .i64)), (.o (.int .i64))]])⟩], fun a H => (⟨(rL tP (slT a 0)), (toI (slT (rwT (elT H 0) 0) 0)), (toI (slT (rwT (elT H 0) 0) 1)), (toI (slT (rwT (elT H 0) 0) 2)), (toI (slT (rwT (elT H 0) 0) 3))⟩, ())⟩ (fun x => W0 x (M2 x))
theorem Ja8 : i6 prog G 55 ma8 := L9 (enc := fun x => ⟨[(eL tP x.w7), (.fn 62 [(.ptr 0 0 0 0)])], [⟨0, 4, [[(i x.n5), (i x.f0), (i x.n7), (i x.d7)]], true, false, 0⟩]⟩) (fun a H => by kernel_rfl) (bd b55 Ga0) fun x => cb0 (.s .p (.s (.s .p (.b (.u S8.ls))) .p)) [S8.pr] (by kernel_rfl) (.cons Ca9 .nil) (Eq.trans (b := B0 (fun r => (W0 x r).run) x) (by kernel_rfl) (Ma0 (fun r => (W0 x r).run) (fun r => r) x).symm)
structure I1 where
 w7 : List Pln
 n5 : Int
 f0 : Int
 n7 : Int
 d7 : Int
noncomputable def Aa7 : List (Nat × Sum) := [(55, ma8)]
theorem xa6 : m8 prog G Aa7 := ⟨Ja8, trivial⟩
structure I4 where
 alt : Nat
 bs0 : Bool
noncomputable def w8 {α : Type} (kk : I4 → α) (x : I1) : α := let t1 := (M2 ⟨(rt tP x.w7), x.n5, x.f0, x.n7, x.d7⟩); (sl ((cnE tP x.w7) && true) (sl (Nat.beq t1.alt 1) (kk ⟨1, (decide (t1.is0 ≥ 0))⟩) (kk ⟨0, false⟩)) (kk ⟨0, false⟩))
noncomputable def R4 (x : I1) : I4 := w8 (fun r => r) x
noncomputable def P8 (x : I1) (r : I4) : DT (a7 × List a8) := (.ite (Nat.beq r.alt 1) (.ret ((b r.bs0), [⟨0, 4, [[(i x.n5), (i x.f0), (i x.n7), (i x.d7)]], true, false, 0⟩])) .fail)
theorem Da0 {α β : Type} (F : α → β) (kk : I4 → α) (x : I1) : F (w8 kk x) = w8 (fun r => F (kk r)) x := by unfold w8; (repeat' apply z8 (f := F)) <;> rfl
noncomputable def ga2 : Sum := Ja1 ⟨[(.s (.c 4 (nL tP))), (.fn 62 [(.o (.ptr 0 0 0 0))])], [⟨0, 4, true, (some [[(.o (.int .i64)), (.o (.int .i64)), (.o (.int .i64)), (.o (.int .i64))]])⟩], fun a H => (⟨(rL tP (slT a 0)), (toI (slT (rwT (elT H 0) 0) 0)), (toI (slT (rwT (elT H 0) 0) 1)), (toI (slT (rwT (elT H 0) 0) 2)), (toI (slT (rwT (elT H 0) 0) 3))⟩, ())⟩ (fun x => P8 x (R4 x))
theorem Aa8 : i6 prog G 48 ga2 := L9 (enc := fun x => ⟨[(eL tP x.w7), (.fn 62 [(.ptr 0 0 0 0)])], [⟨0, 4, [[(i x.n5), (i x.f0), (i x.n7), (i x.d7)]], true, false, 0⟩]⟩) (fun a H => by kernel_rfl) (bd b48 xa6) fun x => C6 (Eq.trans (b := w8 (fun r => (P8 x r).run) x) (by kernel_rfl) (Da0 (fun r => (P8 x r).run) (fun r => r) x).symm)
noncomputable def Tb4 : List (Nat × Sum) := [(48, ga2)]
theorem Jb7 : m8 prog G Tb4 := ⟨Aa8, trivial⟩
noncomputable def oa5 (x : List Pln) (y : Pt) : Option (a7 × List a8) := let t1 := (R4 ⟨(rt tP x), y.px, y.py, y.pz, y.pw⟩); (sl ((cnE tP x) && true) (sl (Nat.beq t1.alt 1) (some ((b (!t1.bs0)), [])) none) none)
noncomputable def O9 (x : List Pln) (y : Pt) : Bool := ea8 (one r1B) (oa5 x y)
noncomputable def P0 (x : List Pln) (y : Pt) : Bool := okO (one r1B) (oa5 x y)
noncomputable def za2 : Sum := oa3 (Aa2 tP) (ia2 tX) (fun x y => .guard (P0 x y) (.ret ((one r1B).enc (O9 x y), [])))
theorem Ja9 : i6 prog G 39 za2 := Db2 (bd b39 Jb7) (one r1B) (o := oa5) fun x y => C6 (by kernel_rfl)
noncomputable def oa6 : List (Nat × Sum) := []
theorem Ma1 : m8 prog G oa6 := trivial
@[reducible] noncomputable def sa0 : Sum := n8 (En oa6) zd4
theorem Qa6 : i6 prog G 72 sa0 := bd b72 Ma1
noncomputable def ta6 : List (Nat × Sum) := [(72, sa0)]
theorem Ta9 : m8 prog G ta6 := ⟨Qa6, trivial⟩
@[reducible] noncomputable def wa2 : Sum := n8 (En ta6) zd0
theorem Ya9 : i6 prog G 53 wa2 := bd b53 Ta9
noncomputable def S9 : List (Nat × Sum) := [(54, Ib1), (39, za2), (53, wa2)]
theorem Ua0 : m8 prog G S9 := ⟨lc8, Ja9, Ya9, trivial⟩
structure d9 where
 is3 : Int
 K3 : List Pln
 wa1 : Int
 O4 : Int
 Bb4 : Nat
 Ha4 : Nat → List a7
 X9 : Int
 ea5 : Int
 Gc7 : Nat
 Fa2 : Nat → List a7
 oc6 : Int
 c8 : List Pln
 P4 : Int
 P5 : Int
 P6 : Int
 P7 : Int
 Y3 : Int
 Y4 : Int
 Y5 : Int
 Ha5 : Int
 ea6 : List Pln
structure e7 where
 ph : Nat
 ha1 : Int
 za8 : Nat
 eh6 : List (List a7)
 eh7 : List (List a7)
noncomputable def Ma2 (p : d9) (s : e7) : St := ⟨(.unk :: ((.ptr 0 0 0 0) :: (.unk :: ((i p.is3) :: ((.ptr 1 0 0 0) :: (.unk :: ((.ptr 2 0 0 0) :: (.unk :: (.unk :: ((eL tP p.K3) :: ((i p.wa1) :: ((i p.O4) :: (ra 7 ((.tree 4 p.Bb4 p.Ha4) :: ((i p.X9) :: ((i p.ea5) :: (ra 9 ((.tree 4 p.Gc7 p.Fa2) :: ((i p.oc6) :: ((i s.ha1) :: (ra 13 ((i 0) :: (.unk :: ((.ptr 3 0 0 0) :: ((.v (.slice none 0 0)) :: ((.ptr 4 0 0 0) :: ((.ptr 5 0 0 0) :: (ra 31 [])))))))))))))))))))))))))))), [⟨0, 1, [[(eL tP p.c8)]], true, false, 0⟩, ⟨0, 4, [[(i p.P4), (i p.P5), (i p.P6), (i p.P7)]], true, false, 0⟩, ⟨0, 4, [[(i p.Y3), (i p.Y4), (i p.Y5), (i p.Ha5)]], true, false, 0⟩, ⟨0, 1, [[(eL tP p.ea6)]], true, false, 0⟩, ⟨0, 0, [[(.v (.slice none 0 0))]], true, false, 0⟩, ⟨0, 0, [[(.ptr 6 0 0 0)]], true, false, 0⟩, ⟨84, 0, [], true, false, 0⟩]⟩
noncomputable def Ma3 (p : d9) (s : e7) : St := ⟨(.unk :: ((.ptr 0 0 0 0) :: (.unk :: ((i p.is3) :: ((.ptr 1 0 0 0) :: (.unk :: ((.ptr 2 0 0 0) :: (.unk :: (.unk :: ((eL tP p.K3) :: ((i p.wa1) :: ((i p.O4) :: (ra 7 ((.tree 4 p.Bb4 p.Ha4) :: ((i p.X9) :: ((i p.ea5) :: (ra 9 ((.tree 4 p.Gc7 p.Fa2) :: ((i p.oc6) :: ((i s.ha1) :: (ra 13 ((i 0) :: (.unk :: ((.ptr 3 0 0 0) :: ((.v (.slice none 0 0)) :: ((.ptr 4 0 0 0) :: ((.ptr 5 0 0 0) :: (ra 31 [])))))))))))))))))))))))))))), [⟨0, 1, [[(eL tP p.c8)]], true, false, 0⟩, ⟨0, 4, [[(i p.P4), (i p.P5), (i p.P6), (i p.P7)]], true, false, 0⟩, ⟨0, 4, [[(i p.Y3), (i p.Y4), (i p.Y5), (i p.Ha5)]], true, false, 0⟩, ⟨0, 1, [[(eL tP p.ea6)]], true, false, 0⟩, ⟨0, 0, [[(.sl 6 0 s.za8 0)]], true, false, 0⟩, ⟨0, 0, [[(.ptr 7 0 0 0)]], true, false, 0⟩, ⟨53, 4, s.eh6, true, false, 0⟩, ⟨84, 0, s.eh7, true, false, 0⟩]⟩
noncomputable def Qa7 (p : d9) (s : e7) : St := (sel (Nat.beq s.ph 1) (Ma3 p s) (Ma2 p s))
noncomputable def s7 {α : Type} (k : e7 → α) (e : Nat → α) (z : α) (p : d9) (s : e7) : α := let t1 := (Aa5 (⟨(⟨(⟨p.P4, p.P5, p.P6⟩ : V3), p.P7⟩ : Pln), (⟨(⟨p.Y3, p.Y4, p.Y5⟩ : V3), p.Ha5⟩ : Pln), (⟨(⟨(toI (hdA (p.Fa2 s.ha1.toNat))), (toI (hdA (tlA (p.Fa2 s.ha1.toNat)))), (toI (hdA (tlA (tlA (p.Fa2 s.ha1.toNat)))))⟩ : V3), (toI (hdA (tlA (tlA (tlA (p.Fa2 s.ha1.toNat))))))⟩ : Pln)⟩ : Tp)); let t2 := (O9 (rt tP p.ea6) t1.1); (sl (decide (s.ha1 < p.oc6)) (sl (inB s.ha1 p.Gc7) (sl ((Nat.ble 4 (len (p.Fa2 s.ha1.toNat))) && (Oa3 [(CK.int .i64), (CK.int .i64), (CK.int .i64), (CK.int .i64)] (p.Fa2 s.ha1.toNat))) (sl (Aa6 (⟨(⟨(⟨p.P4, p.P5, p.P6⟩ : V3), p.P7⟩ : Pln), (⟨(⟨p.Y3, p.Y4, p.Y5⟩ : V3), p.Ha5⟩ : Pln), (⟨(⟨(toI (hdA (p.Fa2 s.ha1.toNat))), (toI (hdA (tlA (p.Fa2 s.ha1.toNat)))), (toI (hdA (tlA (tlA (p.Fa2 s.ha1.toNat)))))⟩ : V3), (toI (hdA (tlA (tlA (tlA (p.Fa2 s.ha1.toNat))))))⟩ : Pln)⟩ : Tp)) (sl t1.2 (sl (!(ub8 4 [(0, (.int .i64)), (1, (.int .i64)), (2, (.int .i64)), (3, (.int .i64))] [(i t1.1.px), (i t1.1.py), (i t1.1.pz), (i t1.1.pw)] [])) (sl (okE tP p.ea6) (sl (P0 (rt tP p.ea6) t1.1) (sl t2 (k ⟨1, (W (s.ha1 + 1)), 1, [[(i t1.1.px), (i t1.1.py), (i t1.1.pz), (i t1.1.pw)]], (Pa9 [(0, (.int .i64)), (1, (.int .i64)), (2, (.int .i64)), (3, (.int .i64))] [(i t1.1.px), (i t1.1.py), (i t1.1.pz), (i t1.1.pw)] [(i t1.1.px), (i t1.1.py), (i t1.1.pz), (i t1.1.pw), (b true)] [])⟩) (k ⟨0, (W (s.ha1 + 1)), 0, [], []⟩)) z) z) (k ⟨0, (W (s.ha1 + 1)), 0, [], []⟩)) (k ⟨0, (W (s.ha1 + 1)), 0, [], []⟩)) z) z) z) (e 1))
noncomputable def s8 {α : Type} (k : e7 → α) (e : Nat → α) (z : α) (p : d9) (s : e7) : α := let t1 := (Aa5 (⟨(⟨(⟨p.P4, p.P5, p.P6⟩ : V3), p.P7⟩ : Pln), (⟨(⟨p.Y3, p.Y4, p.Y5⟩ : V3), p.Ha5⟩ : Pln), (⟨(⟨(toI (hdA (p.Fa2 s.ha1.toNat))), (toI (hdA (tlA (p.Fa2 s.ha1.toNat)))), (toI (hdA (tlA (tlA (p.Fa2 s.ha1.toNat)))))⟩ : V3), (toI (hdA (tlA (tlA (tlA (p.Fa2 s.ha1.toNat))))))⟩ : Pln)⟩ : Tp)); let t2 := (O9 (rt tP p.ea6) t1.1); (sl (decide (s.ha1 < p.oc6)) (sl (inB s.ha1 p.Gc7) (sl ((Nat.ble 4 (len (p.Fa2 s.ha1.toNat))) && (Oa3 [(CK.int .i64), (CK.int .i64), (CK.int .i64), (CK.int .i64)] (p.Fa2 s.ha1.toNat))) (sl (Aa6 (⟨(⟨(⟨p.P4, p.P5, p.P6⟩ : V3), p.P7⟩ : Pln), (⟨(⟨p.Y3, p.Y4, p.Y5⟩ : V3), p.Ha5⟩ : Pln), (⟨(⟨(toI (hdA (p.Fa2 s.ha1.toNat))), (toI (hdA (tlA (p.Fa2 s.ha1.toNat)))), (toI (hdA (tlA (tlA (p.Fa2 s.ha1.toNat)))))⟩ : V3), (toI (hdA (tlA (tlA (tlA (p.Fa2 s.ha1.toNat))))))⟩ : Pln)⟩ : Tp)) (sl t1.2 (sl (!(ub8 4 [(0, (.int .i64)), (1, (.int .i64)), (2, (.int .i64)), (3, (.int .i64))] [(i t1.1.px), (i t1.1.py), (i t1.1.pz), (i t1.1.pw)] s.eh7)) (sl (okE tP p.ea6) (sl (P0 (rt tP p.ea6) t1.1) (sl t2 (sl (Nat.beq s.za8 (len s.eh6) && Nat.ble ((s.za8 + 1) * 32) room) (k ⟨1, (W (s.ha1 + 1)), (s.za8 + 1), (app s.eh6 [[(i t1.1.px), (i t1.1.py), (i t1.1.pz), (i t1.1.pw)]]), (Pa9 [(0, (.int .i64)), (1, (.int .i64)), (2, (.int .i64)), (3, (.int .i64))] [(i t1.1.px), (i t1.1.py), (i t1.1.pz), (i t1.1.pw)] [(i t1.1.px), (i t1.1.py), (i t1.1.pz), (i t1.1.pw), (b true)] s.eh7)⟩) z) (k ⟨1, (W (s.ha1 + 1)), s.za8, s.eh6, s.eh7⟩)) z) z) (k ⟨1, (W (s.ha1 + 1)), s.za8, s.eh6, s.eh7⟩)) (k ⟨1, (W (s.ha1 + 1)), s.za8, s.eh6, s.eh7⟩)) z) z) z) (e 2))
noncomputable def p6 (p : d9) (s : e7) : Stp e7 := (sel (Nat.beq s.ph 1) (s8 .next .exit .fail p s) (s7 .next .exit .fail p s))
noncomputable def ca9 : Lo d9 e7 := ⟨En S9, 0, id8, [1, 1, 1, 0, 1, 4, 4, 1, 4, 4, 1, 1, 0, 4, 1, 1, 4, 4, 1, 1, 0, 4, 1, 1, 4, 4], [1, 3, 4, 6, 9, 10, 11, 19, 20, 21, 31, 32, 33, 47, 49, 50, 51, 52], .p, [⟨((.s (.o .unk)) :: ((.s (.o (.ptr 0 0 0 0))) :: ((.s (.o .unk)) :: ((.s (.o (.int .i64))) :: ((.s (.o (.ptr 1 0 0 0))) :: ((.s (.o .unk)) :: ((.s (.o (.ptr 2 0 0 0))) :: ((.s (.o .unk)) :: ((.s (.o .unk)) :: ((.s (.c 4 (nL tP))) :: ((.s (.o (.int .i64))) :: ((.s (.o (.int .i64))) :: (ru2 7 ((.s (.o (.tree 4))) :: ((.s (.o (.int .i64))) :: ((.s (.o (.int .i64))) :: (ru2 9 ((.s (.o (.tree 4))) :: ((.s (.o (.int .i64))) :: ((.s (.o (.int .i64))) :: (ru2 13 ((.s (.o (.lit .i64 0))) :: ((.s (.o .unk)) :: ((.s (.o (.ptr 3 0 0 0))) :: ((.s (.o .nil)) :: ((.s (.o (.ptr 4 0 0 0))) :: ((.s (.o (.ptr 5 0 0 0))) :: (ru2 31 [])))))))))))))))))))))))))))), [⟨0, 1, true, (some [[(.c 4 (nL tP))]])⟩, ⟨0, 4, true, (some [[(.o (.int .i64)), (.o (.int .i64)), (.o (.int .i64)), (.o (.int .i64))]])⟩, ⟨0, 4, true, (some [[(.o (.int .i64)), (.o (.int .i64)), (.o (.int .i64)), (.o (.int .i64))]])⟩, ⟨0, 1, true, (some [[(.c 4 (nL tP))]])⟩, ⟨0, 0, true, (some [[(.o .nil)]])⟩, ⟨0, 0, true, (some [[(.o (.ptr 6 0 0 0))]])⟩, ⟨84, 0, true, (some [])⟩], fun a H => (⟨(toI (slT a 3)), (rL tP (slT a 9)), (toI (slT a 10)), (toI (slT a 11)), (toN (slT a 19)), (toG (slT a 19)), (toI (slT a 20)), (toI (slT a 21)), (toN (slT a 31)), (toG (slT a 31)), (toI (slT a 32)), (rL tP (slT (rwT (elT H 0) 0) 0)), (toI (slT (rwT (elT H 1) 0) 0)), (toI (slT (rwT (elT H 1) 0) 1)), (toI (slT (rwT (elT H 1) 0) 2)), (toI (slT (rwT (elT H 1) 0) 3)), (toI (slT (rwT (elT H 2) 0) 0)), (toI (slT (rwT (elT H 2) 0) 1)), (toI (slT (rwT (elT H 2) 0) 2)), (toI (slT (rwT (elT H 2) 0) 3)), (rL tP (slT (rwT (elT H 3) 0) 0))⟩, ⟨0, (toI (slT a 33)), 0, [], []⟩)⟩, ⟨((.s (.o .unk)) :: ((.s (.o (.ptr 0 0 0 0))) :: ((.s (.o .unk)) :: ((.s (.o (.int .i64))) :: ((.s (.o (.ptr 1 0 0 0))) :: ((.s (.o .unk)) :: ((.s (.o (.ptr 2 0 0 0))) :: ((.s (.o .unk)) :: ((.s (.o .unk)) :: ((.s (.c 4 (nL tP))) :: ((.s (.o (.int .i64))) :: ((.s (.o (.int .i64))) :: (ru2 7 ((.s (.o (.tree 4))) :: ((.s (.o (.int .i64))) :: ((.s (.o (.int .i64))) :: (ru2 9 ((.s (.o (.tree 4))) :: ((.s (.o (.int .i64))) :: ((.s (.o (.int .i64))) :: (ru2 13 ((.s (.o (.lit .i64 0))) :: ((.s (.o .unk)) :: ((.s (.o (.ptr 3 0 0 0))) :: ((.s (.o .nil)) :: ((.s (.o (.ptr 4 0 0 0))) :: ((.s (.o (.ptr 5 0 0 0))) :: (ru2 31 [])))))))))))))))))))))))))))), [⟨0, 1, true, (some [[(.c 4 (nL tP))]])⟩, ⟨0, 4, true, (some [[(.o (.int .i64)), (.o (.int .i64)), (.o (.int .i64)), (.o (.int .i64))]])⟩, ⟨0, 4, true, (some [[(.o (.int .i64)), (.o (.int .i64)), (.o (.int .i64)), (.o (.int .i64))]])⟩, ⟨0, 1, true, (some [[(.c 4 (nL tP))]])⟩, ⟨0, 0, true, (some [[(.o (.sl 6 0 (some 0) none))]])⟩, ⟨0, 0, true, (some [[(.o (.ptr 7 0 0 0))]])⟩, ⟨53, 4, true, none⟩, ⟨84, 0, true, none⟩], fun a H => (⟨(toI (slT a 3)), (rL tP (slT a 9)), (toI (slT a 10)), (toI (slT a 11)), (toN (slT a 19)), (toG (slT a 19)), (toI (slT a 20)), (toI (slT a 21)), (toN (slT a 31)), (toG (slT a 31)), (toI (slT a 32)), (rL tP (slT (rwT (elT H 0) 0) 0)), (toI (slT (rwT (elT H 1) 0) 0)), (toI (slT (rwT (elT H 1) 0) 1)), (toI (slT (rwT (elT H 1) 0) 2)), (toI (slT (rwT (elT H 1) 0) 3)), (toI (slT (rwT (elT H 2) 0) 0)), (toI (slT (rwT (elT H 2) 0) 1)), (toI (slT (rwT (elT H 2) 0) 2)), (toI (slT (rwT (elT H 2) 0) 3)), (rL tP (slT (rwT (elT H 3) 0) 0))⟩, ⟨1, (toI (slT a 33)), (slN (slT (rwT (elT H 4) 0) 0)), (elT H 6), (elT H 7)⟩)⟩], p6, [(some 4, fun p s => ⟨(.unk :: ((.ptr 0 0 0 0) :: (.unk :: ((i p.is3) :: ((.ptr 1 0 0 0) :: (.unk :: ((.ptr 2 0 0 0) :: (.unk :: (.unk :: ((eL tP p.K3) :: ((i p.wa1) :: ((i p.O4) :: (ra 7 ((.tree 4 p.Bb4 p.Ha4) :: ((i p.X9) :: ((i p.ea5) :: (ra 9 ((.tree 4 p.Gc7 p.Fa2) :: ((i p.oc6) :: ((i s.ha1) :: ((b (decide (s.ha1 < p.oc6))) :: (ra 12 ((i 0) :: (.unk :: ((.ptr 3 0 0 0) :: ((.v (.slice none 0 0)) :: ((.ptr 4 0 0 0) :: ((.ptr 5 0 0 0) :: (ra 31 []))))))))))))))))))))))))))))), [⟨0, 1, [[(eL tP p.c8)]], true, false, 0⟩, ⟨0, 4, [[(i p.P4), (i p.P5), (i p.P6), (i p.P7)]], true, false, 0⟩, ⟨0, 4, [[(i p.Y3), (i p.Y4), (i p.Y5), (i p.Ha5)]], true, false, 0⟩, ⟨0, 1, [[(eL tP p.ea6)]], true, false, 0⟩, ⟨0, 0, [[(.v (.slice none 0 0))]], true, false, 0⟩, ⟨0, 0, [[(.ptr 6 0 0 0)]], true, false, 0⟩, ⟨84, 0, [], true, false, 0⟩]⟩), (some 4, fun p s => ⟨(.unk :: ((.ptr 0 0 0 0) :: (.unk :: ((i p.is3) :: ((.ptr 1 0 0 0) :: (.unk :: ((.ptr 2 0 0 0) :: (.unk :: (.unk :: ((eL tP p.K3) :: ((i p.wa1) :: ((i p.O4) :: (ra 7 ((.tree 4 p.Bb4 p.Ha4) :: ((i p.X9) :: ((i p.ea5) :: (ra 9 ((.tree 4 p.Gc7 p.Fa2) :: ((i p.oc6) :: ((i s.ha1) :: ((b (decide (s.ha1 < p.oc6))) :: (ra 12 ((i 0) :: (.unk :: ((.ptr 3 0 0 0) :: ((.v (.slice none 0 0)) :: ((.ptr 4 0 0 0) :: ((.ptr 5 0 0 0) :: (ra 31 []))))))))))))))))))))))))))))), [⟨0, 1, [[(eL tP p.c8)]], true, false, 0⟩, ⟨0, 4, [[(i p.P4), (i p.P5), (i p.P6), (i p.P7)]], true, false, 0⟩, ⟨0, 4, [[(i p.Y3), (i p.Y4), (i p.Y5), (i p.Ha5)]], true, false, 0⟩, ⟨0, 1, [[(eL tP p.ea6)]], true, false, 0⟩, ⟨0, 0, [[(.sl 6 0 s.za8 0)]], true, false, 0⟩, ⟨0, 0, [[(.ptr 7 0 0 0)]], true, false, 0⟩, ⟨53, 4, s.eh6, true, false, 0⟩, ⟨84, 0, s.eh7, true, false, 0⟩]⟩)], Qa7⟩
theorem Qa8 : ca9.OkM := Lo.okM [] (by kernel_rfl) .nil rfl (.cons (fun a H => by kernel_rfl) (.cons (fun a H => by kernel_rfl) .nil)) fun p s => (.sel (Nat.beq s.ph 1) (.of @s8 (fun F _ _ _ _ _ => by unfold s8; (repeat' apply z8 (f := F)) <;> rfl) (by kernel_rfl)) (.of @s7 (fun F _ _ _ _ _ => by unfold s7; (repeat' apply z8 (f := F)) <;> rfl) (by kernel_rfl)))
structure e8 where
 is3 : Int
 wa1 : Int
 O4 : Int
 Bb4 : Nat
 Ha4 : Nat → List a7
 X9 : Int
 P4 : Int
 P5 : Int
 P6 : Int
 P7 : Int
structure g7 where
 ph : Nat
 K3 : List Pln
 ea5 : Int
 c8 : List Pln
 L2 : List Pln
 Bb5 : Nat
 eh5 : List (List a7)
 eh6 : List (List a7)
noncomputable def Ma4 (p : e8) (s : g7) : St := ⟨(.unk :: ((.ptr 0 0 0 0) :: (.unk :: ((i p.is3) :: ((.ptr 1 0 0 0) :: (ra 4 ((eL tP s.K3) :: ((i p.wa1) :: ((i p.O4) :: (ra 7 ((.tree 4 p.Bb4 p.Ha4) :: ((i p.X9) :: ((i s.ea5) :: (ra 25 ((i 0) :: (.unk :: ((.ptr 2 0 0 0) :: ((.v (.slice none 0 0)) :: ((.ptr 3 0 0 0) :: ((.ptr 4 0 0 0) :: (ra 31 []))))))))))))))))))))), [⟨0, 1, [[(eL tP s.c8)]], true, false, 0⟩, ⟨0, 4, [[(i p.P4), (i p.P5), (i p.P6), (i p.P7)]], true, false, 0⟩, ⟨0, 1, [[(eL tP s.L2)]], true, false, 0⟩, ⟨0, 0, [[(.v (.slice none 0 0))]], true, false, 0⟩, ⟨0, 0, [[(.ptr 5 0 0 0)]], true, false, 0⟩, ⟨84, 0, [], true, false, 0⟩]⟩
noncomputable def Ma5 (p : e8) (s : g7) : St := ⟨(.unk :: ((.ptr 0 0 0 0) :: (.unk :: ((i p.is3) :: ((.ptr 1 0 0 0) :: (ra 4 ((eL tP s.K3) :: ((i p.wa1) :: ((i p.O4) :: (ra 7 ((.tree 4 p.Bb4 p.Ha4) :: ((i p.X9) :: ((i s.ea5) :: (ra 25 ((i 0) :: (.unk :: ((.ptr 2 0 0 0) :: ((.v (.slice none 0 0)) :: ((.ptr 3 0 0 0) :: ((.ptr 4 0 0 0) :: (ra 31 []))))))))))))))))))))), [⟨0, 1, [[(eL tP s.c8)]], true, false, 0⟩, ⟨0, 4, [[(i p.P4), (i p.P5), (i p.P6), (i p.P7)]], true, false, 0⟩, ⟨0, 1, [[(eL tP s.L2)]], true, false, 0⟩, ⟨0, 0, [[(.sl 5 0 s.Bb5 0)]], true, false, 0⟩, ⟨0, 0, [[(.ptr 6 0 0 0)]], true, false, 0⟩, ⟨53, 4, s.eh5, true, false, 0⟩, ⟨84, 0, s.eh6, true, false, 0⟩]⟩
noncomputable def Qa9 (p : e8) (s : g7) : St := (sel (Nat.beq s.ph 1) (Ma5 p s) (Ma4 p s))
noncomputable def s9 {α : Type} (k : g7 → α) (e : Nat → α) (z : α) (p : e8) (s : g7) : α := let t1 := (lp (p6 (⟨p.is3, (rt tP s.K3), p.wa1, p.O4, p.Bb4, p.Ha4, p.X9, s.ea5, ((List.length s.c8) - (W ((W (p.is3 + s.ea5)) + 2)).toNat), (fun k => (fun k => (tP).row (gL tP s.c8 k)) ((W ((W (p.is3 + s.ea5)) + 2)).toNat + k)), (↑((List.length s.c8) - (W ((W (p.is3 + s.ea5)) + 2)).toNat) : Int), (rt tP s.c8), p.P4, p.P5, p.P6, p.P7, (toI (hdA (p.Ha4 s.ea5.toNat))), (toI (hdA (tlA (p.Ha4 s.ea5.toNat)))), (toI (hdA (tlA (tlA (p.Ha4 s.ea5.toNat))))), (toI (hdA (tlA (tlA (tlA (p.Ha4 s.ea5.toNat)))))), (rt tP s.L2)⟩ : d9)) (⟨0, 0, 0, [], []⟩ : e7)); (sl (decide (s.ea5 < p.X9)) (sl (inB s.ea5 p.Bb4) (sl ((Nat.ble 4 (len (p.Ha4 s.ea5.toNat))) && (Oa3 [(CK.int .i64), (CK.int .i64), (CK.int .i64), (CK.int .i64)] (p.Ha4 s.ea5.toNat))) (sl (inB (W ((W (p.is3 + s.ea5)) + 2)) ((List.length s.c8) + 1)) (sl ((cnE tP s.K3) && ((cnE tP s.c8) && ((cnE tP s.L2) && true))) (sl (Nat.beq t1.1 1) (k ⟨0, (rt tP s.K3), (W (s.ea5 + 1)), (rt tP s.c8), (rt tP s.L2), 0, [], []⟩) (sl (Nat.beq t1.1 2) (k ⟨1, (rt tP s.K3), (W (s.ea5 + 1)), (rt tP s.c8), (rt tP s.L2), t1.2.za8, t1.2.eh6, t1.2.eh7⟩) z)) z) z) z) z) (e 1))
noncomputable def u9 {α : Type} (k : g7 → α) (e : Nat → α) (z : α) (p : e8) (s : g7) : α := let t1 := (lp (p6 (⟨p.is3, (rt tP s.K3), p.wa1, p.O4, p.Bb4, p.Ha4, p.X9, s.ea5, ((List.length s.c8) - (W ((W (p.is3 + s.ea5)) + 2)).toNat), (fun k => (fun k => (tP).row (gL tP s.c8 k)) ((W ((W (p.is3 + s.ea5)) + 2)).toNat + k)), (↑((List.length s.c8) - (W ((W (p.is3 + s.ea5)) + 2)).toNat) : Int), (rt tP s.c8), p.P4, p.P5, p.P6, p.P7, (toI (hdA (p.Ha4 s.ea5.toNat))), (toI (hdA (tlA (p.Ha4 s.ea5.toNat)))), (toI (hdA (tlA (tlA (p.Ha4 s.ea5.toNat))))), (toI (hdA (tlA (tlA (tlA (p.Ha4 s.ea5.toNat)))))), (rt tP s.L2)⟩ : d9)) (⟨1, 0, s.Bb5, s.eh5, s.eh6⟩ : e7)); (sl (decide (s.ea5 < p.X9)) (sl (inB s.ea5 p.Bb4) (sl ((Nat.ble 4 (len (p.Ha4 s.ea5.toNat))) && (Oa3 [(CK.int .i64), (CK.int .i64), (CK.int .i64), (CK.int .i64)] (p.Ha4 s.ea5.toNat))) (sl (inB (W ((W (p.is3 + s.ea5)) + 2)) ((List.length s.c8) + 1)) (sl ((cnE tP s.K3) && ((cnE tP s.c8) && ((cnE tP s.L2) && true))) (sl (Nat.beq t1.1 1) (k ⟨0, (rt tP s.K3), (W (s.ea5 + 1)), (rt tP s.c8), (rt tP s.L2), 0, [], []⟩) (sl (Nat.beq t1.1 2) (k ⟨1, (rt tP s.K3), (W (s.ea5 + 1)), (rt tP s.c8), (rt tP s.L2), t1.2.za8, t1.2.eh6, t1.2.eh7⟩) z)) z) z) z) z) (e 2))
noncomputable def p7 (p : e8) (s : g7) : Stp g7 := (sel (Nat.beq s.ph 1) (u9 .next .exit .fail p s) (s9 .next .exit .fail p s))
noncomputable def da0 : Lo e8 g7 := ⟨En S9, 0, id8, [1, 1, 1, 0, 1, 4, 4, 1, 4, 4, 1, 1, 0, 4, 1, 1, 4, 4], [1, 3, 4, 9, 10, 11, 19, 20, 21, 47, 49, 50, 51, 52], (.s .p (.s .p (.s (.b (.s .p (.s .p (.b (.u ca9.lsM))))) .p))), [⟨((.s (.o .unk)) :: ((.s (.o (.ptr 0 0 0 0))) :: ((.s (.o .unk)) :: ((.s (.o (.int .i64))) :: ((.s (.o (.ptr 1 0 0 0))) :: (ru2 4 ((.s (.c 4 (nL tP))) :: ((.s (.o (.int .i64))) :: ((.s (.o (.int .i64))) :: (ru2 7 ((.s (.o (.tree 4))) :: ((.s (.o (.int .i64))) :: ((.s (.o (.int .i64))) :: (ru2 25 ((.s (.o (.lit .i64 0))) :: ((.s (.o .unk)) :: ((.s (.o (.ptr 2 0 0 0))) :: ((.s (.o .nil)) :: ((.s (.o (.ptr 3 0 0 0))) :: ((.s (.o (.ptr 4 0 0 0))) :: (ru2 31 []))))))))))))))))))))), [⟨0, 1, true, (some [[(.c 4 (nL tP))]])⟩, ⟨0, 4, true, (some [[(.o (.int .i64)), (.o (.int .i64)), (.o (.int .i64)), (.o (.int .i64))]])⟩, ⟨0, 1, true, (some [[(.c 4 (nL tP))]])⟩, ⟨0, 0, true, (some [[(.o .nil)]])⟩, ⟨0, 0, true, (some [[(.o (.ptr 5 0 0 0))]])⟩, ⟨84, 0, true, (some [])⟩], fun a H => (⟨(toI (slT a 3)), (toI (slT a 10)), (toI (slT a 11)), (toN (slT a 19)), (toG (slT a 19)), (toI (slT a 20)), (toI (slT (rwT (elT H 1) 0) 0)), (toI (slT (rwT (elT H 1) 0) 1)), (toI (slT (rwT (elT H 1) 0) 2)), (toI (slT (rwT (elT H 1) 0) 3))⟩, ⟨0, (rL tP (slT a 9)), (toI (slT a 21)), (rL tP (slT (rwT (elT H 0) 0) 0)), (rL tP (slT (rwT (elT H 2) 0) 0)), 0, [], []⟩)⟩, ⟨((.s (.o .unk)) :: ((.s (.o (.ptr 0 0 0 0))) :: ((.s (.o .unk)) :: ((.s (.o (.int .i64))) :: ((.s (.o (.ptr 1 0 0 0))) :: (ru2 4 ((.s (.c 4 (nL tP))) :: ((.s (.o (.int .i64))) :: ((.s (.o (.int .i64))) :: (ru2 7 ((.s (.o (.tree 4))) :: ((.s (.o (.int .i64))) :: ((.s (.o (.int .i64))) :: (ru2 25 ((.s (.o (.lit .i64 0))) :: ((.s (.o .unk)) :: ((.s (.o (.ptr 2 0 0 0))) :: ((.s (.o .nil)) :: ((.s (.o (.ptr 3 0 0 0))) :: ((.s (.o (.ptr 4 0 0 0))) :: (ru2 31 []))))))))))))))))))))), [⟨0, 1, true, (some [[(.c 4 (nL tP))]])⟩, ⟨0, 4, true, (some [[(.o (.int .i64)), (.o (.int .i64)), (.o (.int .i64)), (.o (.int .i64))]])⟩, ⟨0, 1, true, (some [[(.c 4 (nL tP))]])⟩, ⟨0, 0, true, (some [[(.o (.sl 5 0 (some 0) none))]])⟩, ⟨0, 0, true, (some [[(.o (.ptr 6 0 0 0))]])⟩, ⟨53, 4, true, none⟩, ⟨84, 0, true, none⟩], fun a H => (⟨(toI (slT a 3)), (toI (slT a 10)), (toI (slT a 11)), (toN (slT a 19)), (toG (slT a 19)), (toI (slT a 20)), (toI (slT (rwT (elT H 1) 0) 0)), (toI (slT (rwT (elT H 1) 0) 1)), (toI (slT (rwT (elT H 1) 0) 2)), (toI (slT (rwT (elT H 1) 0) 3))⟩, ⟨1, (rL tP (slT a 9)), (toI (slT a 21)), (rL tP (slT (rwT (elT H 0) 0) 0)), (rL tP (slT (rwT (elT H 2) 0) 0)), (slN (slT (rwT (elT H 3) 0) 0)), (elT H 5), (elT H 6)⟩)⟩], p7, [(some 2, fun p s => ⟨(.unk :: ((.ptr 0 0 0 0) :: (.unk :: ((i p.is3) :: ((.ptr 1 0 0 0) :: (ra 4 ((eL tP s.K3) :: ((i p.wa1) :: ((i p.O4) :: (ra 7 ((.tree 4 p.Bb4 p.Ha4) :: ((i p.X9) :: ((i s.ea5) :: ((b (decide (s.ea5 < p.X9))) :: (ra 24 ((i 0) :: (.unk :: ((.ptr 2 0 0 0) :: ((.v (.slice none 0 0)) :: ((.ptr 3 0 0 0) :: ((.ptr 4 0 0 0) :: (ra 31 [])))))))))))))))))))))), [⟨0, 1, [[(eL tP s.c8)]], true, false, 0⟩, ⟨0, 4, [[(i p.P4), (i p.P5), (i p.P6), (i p.P7)]], true, false, 0⟩, ⟨0, 1, [[(eL tP s.L2)]], true, false, 0⟩, ⟨0, 0, [[(.v (.slice none 0 0))]], true, false, 0⟩, ⟨0, 0, [[(.ptr 5 0 0 0)]], true, false, 0⟩, ⟨84, 0, [], true, false, 0⟩]⟩), (some 2, fun p s => ⟨(.unk :: ((.ptr 0 0 0 0) :: (.unk :: ((i p.is3) :: ((.ptr 1 0 0 0) :: (ra 4 ((eL tP s.K3) :: ((i p.wa1) :: ((i p.O4) :: (ra 7 ((.tree 4 p.Bb4 p.Ha4) :: ((i p.X9) :: ((i s.ea5) :: ((b (decide (s.ea5 < p.X9))) :: (ra 24 ((i 0) :: (.unk :: ((.ptr 2 0 0 0) :: ((.v (.slice none 0 0)) :: ((.ptr 3 0 0 0) :: ((.ptr 4 0 0 0) :: (ra 31 [])))))))))))))))))))))), [⟨0, 1, [[(eL tP s.c8)]], true, false, 0⟩, ⟨0, 4, [[(i p.P4), (i p.P5), (i p.P6), (i p.P7)]], true, false, 0⟩, ⟨0, 1, [[(eL tP s.L2)]], true, false, 0⟩, ⟨0, 0, [[(.sl 5 0 s.Bb5 0)]], true, false, 0⟩, ⟨0, 0, [[(.ptr 6 0 0 0)]], true, false, 0⟩, ⟨53, 4, s.eh5, true, false, 0⟩, ⟨84, 0, s.eh6, true, false, 0⟩]⟩)], Qa9⟩
theorem Ra0 : da0.OkM := Lo.okM [ca9.prM] (by kernel_rfl) (.cons Qa8 .nil) rfl (.cons (fun a H => by kernel_rfl) (.cons (fun a H => by kernel_rfl) .nil)) fun p s => (.sel (Nat.beq s.ph 1) (.of @u9 (fun F _ _ _ _ _ => by unfold u9; (repeat' apply z8 (f := F)) <;> rfl) (by kernel_rfl)) (.of @s9 (fun F _ _ _ _ _ => by unfold s9; (repeat' apply z8 (f := F)) <;> rfl) (by kernel_rfl)))
structure o0 where
 wa1 : Int
structure i7 where
 ph : Nat
 K3 : List Pln
 O4 : Int
 c8 : List Pln
 sa3 : List Pln
 Nb3 : Nat
 eh4 : List (List a7)
 eh5 : List (List a7)
noncomputable def Ma6 (p : o0) (s : i7) : St := ⟨(.unk :: ((.ptr 0 0 0 0) :: (ra 7 ((eL tP s.K3) :: ((i p.wa1) :: ((i s.O4) :: (ra 35 ((i 0) :: (.unk :: ((.ptr 1 0 0 0) :: ((.v (.slice none 0 0)) :: ((.ptr 2 0 0 0) :: ((.ptr 3 0 0 0) :: (ra 31 [])))))))))))))), [⟨0, 1, [[(eL tP s.c8)]], true, false, 0⟩, ⟨0, 1, [[(eL tP s.sa3)]], true, false, 0⟩, ⟨0, 0, [[(.v (.slice none 0 0))]], true, false, 0⟩, ⟨0, 0, [[(.ptr 4 0 0 0)]], true, false, 0⟩, ⟨84, 0, [], true, false, 0⟩]⟩
noncomputable def Ma7 (p : o0) (s : i7) : St := ⟨(.unk :: ((.ptr 0 0 0 0) :: (ra 7 ((eL tP s.K3) :: ((i p.wa1) :: ((i s.O4) :: (ra 35 ((i 0) :: (.unk :: ((.ptr 1 0 0 0) :: ((.v (.slice none 0 0)) :: ((.ptr 2 0 0 0) :: ((.ptr 3 0 0 0) :: (ra 31 [])))))))))))))), [⟨0, 1, [[(eL tP s.c8)]], true, false, 0⟩, ⟨0, 1, [[(eL tP s.sa3)]], true, false, 0⟩, ⟨0, 0, [[(.sl 4 0 s.Nb3 0)]], true, false, 0⟩, ⟨0, 0, [[(.ptr 5 0 0 0)]], true, false, 0⟩, ⟨53, 4, s.eh4, true, false, 0⟩, ⟨84, 0, s.eh5, true, false, 0⟩]⟩
noncomputable def Ra1 (p : o0) (s : i7) : St := (sel (Nat.beq s.ph 1) (Ma7 p s) (Ma6 p s))
noncomputable def v7 {α : Type} (k : i7 → α) (e : Nat → α) (z : α) (p : o0) (s : i7) : α := let t1 := (lp (p7 (⟨s.O4, p.wa1, s.O4, ((List.length s.c8) - (W (s.O4 + 1)).toNat), (fun k => (fun k => (tP).row (gL tP s.c8 k)) ((W (s.O4 + 1)).toNat + k)), (↑((List.length s.c8) - (W (s.O4 + 1)).toNat) : Int), (gL tP s.K3 s.O4.toNat).n.x, (gL tP s.K3 s.O4.toNat).n.y, (gL tP s.K3 s.O4.toNat).n.z, (gL tP s.K3 s.O4.toNat).b⟩ : e8)) (⟨0, (rt tP s.K3), 0, (rt tP s.c8), (rt tP s.sa3), 0, [], []⟩ : g7)); (sl (decide (s.O4 < p.wa1)) (sl (inB s.O4 (List.length s.K3)) (sl (inB (W (s.O4 + 1)) ((List.length s.c8) + 1)) (sl ((cnE tP s.K3) && ((cnE tP s.c8) && ((cnE tP s.sa3) && true))) (sl (Nat.beq t1.1 1) (k ⟨0, t1.2.K3, (W (s.O4 + 1)), t1.2.c8, t1.2.L2, 0, [], []⟩) (sl (Nat.beq t1.1 2) (k ⟨1, t1.2.K3, (W (s.O4 + 1)), t1.2.c8, t1.2.L2, t1.2.Bb5, t1.2.eh5, t1.2.eh6⟩) z)) z) z) z) (e 1))
noncomputable def v8 {α : Type} (k : i7 → α) (e : Nat → α) (z : α) (p : o0) (s : i7) : α := let t1 := (lp (p7 (⟨s.O4, p.wa1, s.O4, ((List.length s.c8) - (W (s.O4 + 1)).toNat), (fun k => (fun k => (tP).row (gL tP s.c8 k)) ((W (s.O4 + 1)).toNat + k)), (↑((List.length s.c8) - (W (s.O4 + 1)).toNat) : Int), (gL tP s.K3 s.O4.toNat).n.x, (gL tP s.K3 s.O4.toNat).n.y, (gL tP s.K3 s.O4.toNat).n.z, (gL tP s.K3 s.O4.toNat).b⟩ : e8)) (⟨1, (rt tP s.K3), 0, (rt tP s.c8), (rt tP s.sa3), s.Nb3, s.eh4, s.eh5⟩ : g7)); (sl (decide (s.O4 < p.wa1)) (sl (inB s.O4 (List.length s.K3)) (sl (inB (W (s.O4 + 1)) ((List.length s.c8) + 1)) (sl ((cnE tP s.K3) && ((cnE tP s.c8) && ((cnE tP s.sa3) && true))) (sl (Nat.beq t1.1 1) (k ⟨0, t1.2.K3, (W (s.O4 + 1)), t1.2.c8, t1.2.L2, 0, [], []⟩) (sl (Nat.beq t1.1 2) (k ⟨1, t1.2.K3, (W (s.O4 + 1)), t1.2.c8, t1.2.L2, t1.2.Bb5, t1.2.eh5, t1.2.eh6⟩) z)) z) z) z) (e 2))
noncomputable def p8 (p : o0) (s : i7) : Stp i7 := (sel (Nat.beq s.ph 1) (v8 .next .exit .fail p s) (v7 .next .exit .fail p s))
noncomputable def da1 : Lo o0 i7 := ⟨En S9, 0, id8, [1, 1, 1, 0, 1, 4, 4, 1, 4, 4], [1, 9, 10, 11, 47, 49, 50, 51, 52], (.s .p (.s .p (.s (.b (.s .p (.s .p (.b (.u da0.lsM))))) .p))), [⟨((.s (.o .unk)) :: ((.s (.o (.ptr 0 0 0 0))) :: (ru2 7 ((.s (.c 4 (nL tP))) :: ((.s (.o (.int .i64))) :: ((.s (.o (.int .i64))) :: (ru2 35 ((.s (.o (.lit .i64 0))) :: ((.s (.o .unk)) :: ((.s (.o (.ptr 1 0 0 0))) :: ((.s (.o .nil)) :: ((.s (.o (.ptr 2 0 0 0))) :: ((.s (.o (.ptr 3 0 0 0))) :: (ru2 31 [])))))))))))))), [⟨0, 1, true, (some [[(.c 4 (nL tP))]])⟩, ⟨0, 1, true, (some [[(.c 4 (nL tP))]])⟩, ⟨0, 0, true, (some [[(.o .nil)]])⟩, ⟨0, 0, true, (some [[(.o (.ptr 4 0 0 0))]])⟩, ⟨84, 0, true, (some [])⟩], fun a H => (⟨(toI (slT a 10))⟩, ⟨0, (rL tP (slT a 9)), (toI (slT a 11)), (rL tP (slT (rwT (elT H 0) 0) 0)), (rL tP (slT (rwT (elT H 1) 0) 0)), 0, [], []⟩)⟩, ⟨((.s (.o .unk)) :: ((.s (.o (.ptr 0 0 0 0))) :: (ru2 7 ((.s (.c 4 (nL tP))) :: ((.s (.o (.int .i64))) :: ((.s (.o (.int .i64))) :: (ru2 35 ((.s (.o (.lit .i64 0))) :: ((.s (.o .unk)) :: ((.s (.o (.ptr 1 0 0 0))) :: ((.s (.o .nil)) :: ((.s (.o (.ptr 2 0 0 0))) :: ((.s (.o (.ptr 3 0 0 0))) :: (ru2 31 [])))))))))))))), [⟨0, 1, true, (some [[(.c 4 (nL tP))]])⟩, ⟨0, 1, true, (some [[(.c 4 (nL tP))]])⟩, ⟨0, 0, true, (some [[(.o (.sl 4 0 (some 0) none))]])⟩, ⟨0, 0, true, (some [[(.o (.ptr 5 0 0 0))]])⟩, ⟨53, 4, true, none⟩, ⟨84, 0, true, none⟩], fun a H => (⟨(toI (slT a 10))⟩, ⟨1, (rL tP (slT a 9)), (toI (slT a 11)), (rL tP (slT (rwT (elT H 0) 0) 0)), (rL tP (slT (rwT (elT H 1) 0) 0)), (slN (slT (rwT (elT H 2) 0) 0)), (elT H 4), (elT H 5)⟩)⟩], p8, [(some 0, fun p s => ⟨(.unk :: ((.ptr 0 0 0 0) :: (ra 7 ((eL tP s.K3) :: ((i p.wa1) :: ((i s.O4) :: ((b (decide (s.O4 < p.wa1))) :: (ra 34 ((i 0) :: (.unk :: ((.ptr 1 0 0 0) :: ((.v (.slice none 0 0)) :: ((.ptr 2 0 0 0) :: ((.ptr 3 0 0 0) :: (ra 31 []))))))))))))))), [⟨0, 1, [[(eL tP s.c8)]], true, false, 0⟩, ⟨0, 1, [[(eL tP s.sa3)]], true, false, 0⟩, ⟨0, 0, [[(.v (.slice none 0 0))]], true, false, 0⟩, ⟨0, 0, [[(.ptr 4 0 0 0)]], true, false, 0⟩, ⟨84, 0, [], true, false, 0⟩]⟩), (some 0, fun p s => ⟨(.unk :: ((.ptr 0 0 0 0) :: (ra 7 ((eL tP s.K3) :: ((i p.wa1) :: ((i s.O4) :: ((b (decide (s.O4 < p.wa1))) :: (ra 34 ((i 0) :: (.unk :: ((.ptr 1 0 0 0) :: ((.v (.slice none 0 0)) :: ((.ptr 2 0 0 0) :: ((.ptr 3 0 0 0) :: (ra 31 []))))))))))))))), [⟨0, 1, [[(eL tP s.c8)]], true, false, 0⟩, ⟨0, 1, [[(eL tP s.sa3)]], true, false, 0⟩, ⟨0, 0, [[(.sl 4 0 s.Nb3 0)]], true, false, 0⟩, ⟨0, 0, [[(.ptr 5 0 0 0)]], true, false, 0⟩, ⟨53, 4, s.eh4, true, false, 0⟩, ⟨84, 0, s.eh5, true, false, 0⟩]⟩)], Ra1⟩
theorem Ra2 : da1.OkM := Lo.okM [da0.prM] (by kernel_rfl) (.cons Ra0 .nil) rfl (.cons (fun a H => by kernel_rfl) (.cons (fun a H => by kernel_rfl) .nil)) fun p s => (.sel (Nat.beq s.ph 1) (.of @v8 (fun F _ _ _ _ _ => by unfold v8; (repeat' apply z8 (f := F)) <;> rfl) (by kernel_rfl)) (.of @v7 (fun F _ _ _ _ _ => by unfold v7; (repeat' apply z8 (f := F)) <;> rfl) (by kernel_rfl)))
noncomputable def N8 (x : List Pln) : Option (a7 × List a8) := let t1 := (lp (p8 (⟨(↑(List.length x) : Int)⟩ : o0)) (⟨0, (rt tP x), 0, (rt tP x), (rt tP x), 0, [], []⟩ : i7)); (sl ((cnE tP x) && ((cnE tP x) && ((cnE tP x) && true))) (sl (Nat.beq t1.1 1) (some ((.v (.slice none 0 0)), [])) (sl (Nat.beq t1.1 2) (some ((.sl 0 0 t1.2.Nb3 0), [⟨53, 4, t1.2.eh4, true, false, 0⟩])) none)) none)
noncomputable def N9 (x : List Pln) : List Pt := ea8 (one (r1L tX)) (N8 x)
noncomputable def O0 (x : List Pln) : Bool := okO (one (r1L tX)) (N8 x)
noncomputable def ia5 : Sum := ra1 (Aa2 tP) (fun x => .guard (O0 x) (.ret ((one (r1L tX)).enc (N9 x), [])))
theorem ta7 : i6 prog G 28 ia5 := Ta3 (bd b28 Ua0) (one (r1L tX)) (o := N8) fun x => od1 (.s .p (.s .p (.s .p (.s (.s .p (.b (.i (.s .p (.b (.u da1.lsM)))))) .p)))) [da1.prM] (by kernel_rfl) (.cons Ra2 .nil) (by kernel_rfl)
end Go.Ev.Ce
end
section
namespace Go.Ev.Ce
open Go Go.Ev Go.Ev.L Go.Proofs
set_option maxRecDepth 100000
noncomputable def bb1 : List (Nat × Sum) := []
theorem Eb7 : m8 prog G bb1 := trivial
structure da2 where
 is0 : Int
 zc5 : List Int
 is8 : Int
structure G3 where
 is9 : Int
noncomputable def yb4 (p : da2) (s : G3) : St := ⟨((i p.is0) :: (ra 6 ((eL tI p.zc5) :: ((i p.is8) :: ((i s.is9) :: (ra 13 [])))))), []⟩
noncomputable def W4 {α : Type} (k : G3 → α) (e : Nat → α) (z : α) (p : da2) (s : G3) : α := (sl (decide (s.is9 < p.is8)) (sl (inB s.is9 (List.length p.zc5)) (sl (decide ((gL tI p.zc5 s.is9.toNat) < (W (0 - p.is0)))) (e 1) (sl (decide ((gL tI p.zc5 s.is9.toNat) > p.is0)) (e 1) (k ⟨(W (s.is9 + 1))⟩))) z) (e 2))
noncomputable def aa2 (p : da2) (s : G3) : Stp G3 := W4 .next .exit .fail p s
noncomputable def xa7 : Lo da2 G3 := ⟨En bb1, 0, zd1, [1, 0, 1, 4, 4], [0, 7, 8, 9], .p, [⟨((.s (.o (.int .i64))) :: (ru2 6 ((.s (.c 1 (nL tI))) :: ((.s (.o (.int .i64))) :: ((.s (.o (.int .i64))) :: (ru2 13 [])))))), [], fun a H => (⟨(toI (slT a 0)), (rL tI (slT a 7)), (toI (slT a 8))⟩, ⟨(toI (slT a 9))⟩)⟩], aa2, [(none, fun p s => ⟨[(b false)], []⟩), (some 0, fun p s => ⟨((i p.is0) :: (ra 6 ((eL tI p.zc5) :: ((i p.is8) :: ((i s.is9) :: ((b (decide (s.is9 < p.is8))) :: (ra 12 []))))))), []⟩)], yb4⟩
theorem yb5 : xa7.Ok := Lo.ok [] (by kernel_rfl) .nil rfl (.cons (fun a H => by kernel_rfl) .nil) fun p s => (.of @W4 (fun F _ _ _ _ _ => by unfold W4; (repeat' apply z8 (f := F)) <;> rfl) (by kernel_rfl))
noncomputable def ka0 (x : Int) (y : List Int) : Option (a7 × List a8) := let t1 := (lp (aa2 (⟨x, (rt tI y), (↑(List.length y) : Int)⟩ : da2)) (⟨0⟩ : G3)); (sl ((cnE tI y) && true) (sl (Nat.beq t1.1 1) (some ((b false), [])) (sl (Nat.beq t1.1 2) (some ((b true), [])) none)) none)
noncomputable def da3 (x : Int) (y : List Int) : Bool := ea8 (one r1B) (ka0 x y)
noncomputable def da4 (x : Int) (y : List Int) : Bool := okO (one r1B) (ka0 x y)
noncomputable def Ka0 : Sum := oa3 cI (Aa2 tI) (fun x y => .guard (da4 x y) (.ret ((one r1B).enc (da3 x y), [])))
theorem bb2 : i6 prog G 63 Ka0 := Db2 (bd b63 Eb7) (one r1B) (o := ka0) fun x y => cb0 (.s .p (.s (.s .p (.b (.u xa7.ls))) .p)) [xa7.pr] (by kernel_rfl) (.cons yb5 .nil) (by kernel_rfl)
noncomputable def yb6 : List (Nat × Sum) := []
theorem sb4 : m8 prog G yb6 := trivial
noncomputable def ma6 (x : Int) : Int := (if (W (0 - x)) > x then (W (0 - x)) else x)
noncomputable def Ua1 : Sum := ra1 cI (fun x => .ret ((one r1I).enc (ma6 x), []))
theorem yb7 : i6 prog G 88 Ua1 := xb0 (bd b88 sb4) fun x => C6 (by kernel_rfl)
noncomputable def xa8 : List (Nat × Sum) := [(88, Ua1)]
theorem yb8 : m8 prog G xa8 := ⟨yb7, trivial⟩
structure Q9 where
 na6 : List Int
 is7 : Int
 is8 : Int
structure H4 where
 is3 : Int
 is5 : Int
noncomputable def sb5 (p : Q9) (s : H4) : St := ⟨(ra 3 ((i s.is3) :: (.unk :: ((i s.is5) :: ((eL tI p.na6) :: ((i p.is7) :: ((i p.is8) :: (ra 15 [])))))))), []⟩
noncomputable def S4 {α : Type} (k : H4 → α) (e : Nat → α) (z : α) (p : Q9) (s : H4) : α := (sl (decide (s.is5 > 0)) (sl (s.is5 == 0) z (k ⟨s.is5, (Int.tmod s.is3 s.is5)⟩)) (e 1))
noncomputable def O3 (p : Q9) (s : H4) : Stp H4 := S4 .next .exit .fail p s
noncomputable def ta8 : Lo Q9 H4 := ⟨En xa8, 0, sd8, [1, 1, 0, 1, 4, 4, 1, 1, 0, 4, 1, 1, 1, 4, 4], [3, 5, 6, 7, 8], .p, [⟨(ru2 3 ((.s (.o (.int .i64))) :: ((.s (.o .unk)) :: ((.s (.o (.int .i64))) :: ((.s (.c 1 (nL tI))) :: ((.s (.o (.int .i64))) :: ((.s (.o (.int .i64))) :: (ru2 15 [])))))))), [], fun a H => (⟨(rL tI (slT a 6)), (toI (slT a 7)), (toI (slT a 8))⟩, ⟨(toI (slT a 3)), (toI (slT a 5))⟩)⟩], O3, [(some 2, fun p s => ⟨(ra 3 ((i s.is3) :: (.unk :: ((i s.is5) :: ((eL tI p.na6) :: ((i p.is7) :: ((i p.is8) :: (ra 7 ((i s.is5) :: ((b (decide (s.is5 > 0))) :: (ra 6 []))))))))))), []⟩)], sb5⟩
theorem sb6 : ta8.Ok := Lo.ok [] (by kernel_rfl) .nil rfl (.cons (fun a H => by kernel_rfl) .nil) fun p s => (.of @S4 (fun F _ _ _ _ _ => by unfold S4; (repeat' apply z8 (f := F)) <;> rfl) (by kernel_rfl))
structure aa3 where
 is7 : Int
structure E2 where
 is3 : Int
 na6 : List Int
 is8 : Int
noncomputable def sb7 (p : aa3) (s : E2) : St := ⟨(ra 3 ((i s.is3) :: (.unk :: (.unk :: ((eL tI s.na6) :: ((i p.is7) :: ((i s.is8) :: (ra 15 [])))))))), []⟩
noncomputable def S5 {α : Type} (k : E2 → α) (e : Nat → α) (z : α) (p : aa3) (s : E2) : α := let t1 := (ma6 (gL tI s.na6 s.is8.toNat)); let t2 := (lp (O3 (⟨(rt tI s.na6), p.is7, s.is8⟩ : Q9)) (⟨s.is3, t1⟩ : H4)); (sl (decide (s.is8 < p.is7)) (sl (inB s.is8 (List.length s.na6)) (sl ((gL tI s.na6 s.is8.toNat) == (-9223372036854775808)) (e 1) (sl ((cnE tI s.na6) && true) (sl (Nat.beq t2.1 1) (k ⟨t2.2.is3, (rt tI s.na6), (W (s.is8 + 1))⟩) z) z)) z) (e 2))
noncomputable def W5 (p : aa3) (s : E2) : Stp E2 := S5 .next .exit .fail p s
noncomputable def ta9 : Lo aa3 E2 := ⟨En xa8, 0, sd8, [1, 1, 0, 1, 4, 4], [3, 6, 7, 8], (.s .p (.s .p (.s (.b (.s .p (.s .p (.s .p (.b (.u ta8.ls)))))) .p))), [⟨(ru2 3 ((.s (.o (.int .i64))) :: ((.s (.o .unk)) :: ((.s (.o .unk)) :: ((.s (.c 1 (nL tI))) :: ((.s (.o (.int .i64))) :: ((.s (.o (.int .i64))) :: (ru2 15 [])))))))), [], fun a H => (⟨(toI (slT a 7))⟩, ⟨(toI (slT a 3)), (rL tI (slT a 6)), (toI (slT a 8))⟩)⟩], W5, [(none, fun p s => ⟨[(i 0)], []⟩), (some 0, fun p s => ⟨(ra 3 ((i s.is3) :: (.unk :: (.unk :: ((eL tI s.na6) :: ((i p.is7) :: ((i s.is8) :: ((b (decide (s.is8 < p.is7))) :: (ra 14 []))))))))), []⟩)], sb7⟩
theorem sb8 : ta9.Ok := Lo.ok [ta8.pr] (by kernel_rfl) (.cons sb6 .nil) rfl (.cons (fun a H => by kernel_rfl) .nil) fun p s => (.of @S5 (fun F _ _ _ _ _ => by unfold S5; (repeat' apply z8 (f := F)) <;> rfl) (by kernel_rfl))
noncomputable def ga3 (x : List Int) : Option (a7 × List a8) := let t1 := (lp (W5 (⟨(↑(List.length x) : Int)⟩ : aa3)) (⟨0, (rt tI x), 0⟩ : E2)); (sl ((cnE tI x) && true) (sl (Nat.beq t1.1 1) (some ((i 0), [])) (sl (Nat.beq t1.1 2) (some ((i t1.2.is3), [])) none)) none)
noncomputable def qa2 (x : List Int) : Int := ea8 (one r1I) (ga3 x)
noncomputable def qa3 (x : List Int) : Bool := okO (one r1I) (ga3 x)
noncomputable def bb3 : Sum := ra1 (Aa2 tI) (fun x => .guard (qa3 x) (.ret ((one r1I).enc (qa2 x), [])))
theorem Eb8 : i6 prog G 69 bb3 := Ta3 (bd b69 yb8) (one r1I) (o := ga3) fun x => cb0 (.s .p (.s .p (.s (.s .p (.b (.u ta9.ls))) .p))) [ta9.pr] (by kernel_rfl) (.cons sb8 .nil) (by kernel_rfl)
noncomputable def Tb5 : List (Nat × Sum) := [(63, Ka0), (69, bb3)]
theorem Jb8 : m8 prog G Tb5 := ⟨bb2, Eb8, trivial⟩
noncomputable def oa7 (x : Pln) : Option (a7 × List a8) := let t1 := (da3 4608 [x.n.x, x.n.y, x.n.z]); let t2 := (qa2 [x.n.x, x.n.y, x.n.z]); let t3 := (da3 2097152 [x.b]); (sl (da4 4608 [x.n.x, x.n.y, x.n.z]) (sl t1 (sl (qa3 [x.n.x, x.n.y, x.n.z]) (sl (t2 == 1) (sl (da4 2097152 [x.b]) (some ((b t3), [])) none) (some ((b false), []))) none) (some ((b false), []))) none)
noncomputable def oa8 (x : Pln) : Bool := ea8 (one r1B) (oa7 x)
noncomputable def oa9 (x : Pln) : Bool := okO (one r1B) (oa7 x)
noncomputable def Ra3 : Sum := ra1 (ia2 tP) (fun x => .guard (oa9 x) (.ret ((one r1B).enc (oa8 x), [])))
theorem ib3 : i6 prog G 45 Ra3 := Ta3 (bd b45 Jb8) (one r1B) (o := oa7) fun x => C6 (by kernel_rfl)
noncomputable def Jb9 : List (Nat × Sum) := [(45, Ra3)]
theorem Eb9 : m8 prog G Jb9 := ⟨ib3, trivial⟩
noncomputable def ka1 (x : Pln) : Option (a7 × List a8) := let t1 := (oa8 x); (sl (oa9 x) (some ((b (!t1)), [])) none)
noncomputable def ua0 (x : Pln) : Bool := ea8 (one r1B) (ka1 x)
noncomputable def ua1 (x : Pln) : Bool := okO (one r1B) (ka1 x)
noncomputable def ib4 : Sum := ra1 (ia2 tP) (fun x => .guard (ua1 x) (.ret ((one r1B).enc (ua0 x), [])))
theorem Kb0 : i6 prog G 49 ib4 := Ta3 (bd b49 Eb9) (one r1B) (o := ka1) fun x => C6 (by kernel_rfl)
structure M3 where
 w7 : List Pln
noncomputable def ka2 : List (Nat × Sum) := [(49, ib4)]
theorem Ga1 : m8 prog G ka2 := ⟨Kb0, trivial⟩
structure E3 where
 w7 : List Pln
 is7 : Int
structure k9 where
 is8 : Int
noncomputable def Da1 (p : E3) (s : k9) : St := ⟨((eL tP p.w7) :: ((.fn 49 []) :: (ra 5 ((i p.is7) :: ((i s.is8) :: (ra 10 [])))))), []⟩
noncomputable def A3 {α : Type} (k : k9 → α) (e : Nat → α) (z : α) (p : E3) (s : k9) : α := let t1 := (ua0 (gL tP p.w7 s.is8.toNat)); (sl (decide (s.is8 < p.is7)) (sl (inB s.is8 (List.length p.w7)) (sl (ua1 (gL tP p.w7 s.is8.toNat)) (sl t1 (e 1) (k ⟨(W (s.is8 + 1))⟩)) z) z) (e 2))
noncomputable def C9 (p : E3) (s : k9) : Stp k9 := A3 .next .exit .fail p s
noncomputable def T0 : Lo E3 k9 := ⟨En ka2, 0, id9, [1, 0, 1, 4, 4], [0, 1, 7, 8], .p, [⟨((.s (.c 4 (nL tP))) :: ((.s (.o (.fn 49))) :: (ru2 5 ((.s (.o (.int .i64))) :: ((.s (.o (.int .i64))) :: (ru2 10 [])))))), [], fun a H => (⟨(rL tP (slT a 0)), (toI (slT a 7))⟩, ⟨(toI (slT a 8))⟩)⟩], C9, [(none, fun p s => ⟨[(i s.is8)], []⟩), (some 0, fun p s => ⟨((eL tP p.w7) :: ((.fn 49 []) :: (ra 5 ((i p.is7) :: ((i s.is8) :: ((b (decide (s.is8 < p.is7))) :: (ra 9 []))))))), []⟩)], Da1⟩
theorem Da2 : T0.Ok := Lo.ok [] (by kernel_rfl) .nil rfl (.cons (fun a H => by kernel_rfl) .nil) fun p s => (.of @A3 (fun F _ _ _ _ _ => by unfold A3; (repeat' apply z8 (f := F)) <;> rfl) (by kernel_rfl))
structure M4 where
 alt : Nat
 is0 : Int
noncomputable def B1 {α : Type} (kk : M4 → α) (x : M3) : α := let t1 := (lp (C9 (⟨(rt tP x.w7), (↑(List.length x.w7) : Int)⟩ : E3)) (⟨0⟩ : k9)); (sl ((cnE tP x.w7) && true) (sl (Nat.beq t1.1 1) (kk ⟨1, t1.2.is8⟩) (sl (Nat.beq t1.1 2) (kk ⟨1, (-1)⟩) (kk ⟨0, 0⟩))) (kk ⟨0, 0⟩))
noncomputable def Y6 (x : M3) : M4 := B1 (fun r => r) x
noncomputable def W6 (x : M3) (r : M4) : DT (a7 × List a8) := (.ite (Nat.beq r.alt 1) (.ret ((i r.is0), [])) .fail)
theorem Ma8 {α β : Type} (F : α → β) (kk : M4 → α) (x : M3) : F (B1 kk x) = B1 (fun r => F (kk r)) x := by unfold B1; (repeat' apply z8 (f := F)) <;> rfl
noncomputable def ma9 : Sum := Ja1 ⟨[(.s (.c 4 (nL tP))), (.s (.o (.fn 49)))], [], fun a H => (⟨(rL tP (slT a 0))⟩, ())⟩ (fun x => W6 x (Y6 x))
theorem Ka1 : i6 prog G 55 ma9 := L9 (enc := fun x => ⟨[(eL tP x.w7), (.fn 49 [])], []⟩) (fun a H => by kernel_rfl) (bd b55 Ga1) fun x => cb0 (.s .p (.s (.s .p (.b (.u T0.ls))) .p)) [T0.pr] (by kernel_rfl) (.cons Da2 .nil) (Eq.trans (b := B1 (fun r => (W6 x r).run) x) (by kernel_rfl) (Ma8 (fun r => (W6 x r).run) (fun r => r) x).symm)
structure I5 where
 w7 : List Pln
noncomputable def Aa9 : List (Nat × Sum) := [(55, ma9)]
theorem xa9 : m8 prog G Aa9 := ⟨Ka1, trivial⟩
structure I6 where
 alt : Nat
 bs0 : Bool
noncomputable def w9 {α : Type} (kk : I6 → α) (x : I5) : α := let t1 := (Y6 ⟨(rt tP x.w7)⟩); (sl ((cnE tP x.w7) && true) (sl (Nat.beq t1.alt 1) (kk ⟨1, (decide (t1.is0 ≥ 0))⟩) (kk ⟨0, false⟩)) (kk ⟨0, false⟩))
noncomputable def R5 (x : I5) : I6 := w9 (fun r => r) x
noncomputable def P9 (x : I5) (r : I6) : DT (a7 × List a8) := (.ite (Nat.beq r.alt 1) (.ret ((b r.bs0), [])) .fail)
theorem Da3 {α β : Type} (F : α → β) (kk : I6 → α) (x : I5) : F (w9 kk x) = w9 (fun r => F (kk r)) x := by unfold w9; (repeat' apply z8 (f := F)) <;> rfl
noncomputable def ga4 : Sum := Ja1 ⟨[(.s (.c 4 (nL tP))), (.s (.o (.fn 49)))], [], fun a H => (⟨(rL tP (slT a 0))⟩, ())⟩ (fun x => P9 x (R5 x))
theorem Ba0 : i6 prog G 48 ga4 := L9 (enc := fun x => ⟨[(eL tP x.w7), (.fn 49 [])], []⟩) (fun a H => by kernel_rfl) (bd b48 xa9) fun x => C6 (Eq.trans (b := w9 (fun r => (P9 x r).run) x) (by kernel_rfl) (Da3 (fun r => (P9 x r).run) (fun r => r) x).symm)
noncomputable def Yb9 : List (Nat × Sum) := [(48, ga4)]
theorem Tb6 : m8 prog G Yb9 := ⟨Ba0, trivial⟩
noncomputable def ua2 (x : List Pln) : Option (a7 × List a8) := let t1 := (R5 ⟨(rt tP x)⟩); (sl (decide ((↑(List.length x) : Int) > 48)) (some ((i 2), [])) (sl ((cnE tP x) && true) (sl (Nat.beq t1.alt 1) (sl t1.bs0 (some ((i 12), [])) (some ((i 0), []))) none) none))
noncomputable def fa1 (x : List Pln) : Int := ea8 (one r1I) (ua2 x)
noncomputable def T1 (x : List Pln) : Bool := okO (one r1I) (ua2 x)
noncomputable def Ga2 : Sum := ra1 (Aa2 tP) (fun x => .guard (T1 x) (.ret ((one r1I).enc (fa1 x), [])))
theorem Ra4 : i6 prog G 19 Ga2 := Ta3 (bd b19 Tb6) (one r1I) (o := ua2) fun x => C6 (by kernel_rfl)
noncomputable def Kb1 : List (Nat × Sum) := [(19, Ga2)]
theorem Fb0 : m8 prog G Kb1 := ⟨Ra4, trivial⟩
noncomputable def ka3 (x : List Pln) : Option (a7 × List a8) := let t1 := (fa1 (rt tP x)); (sl (okE tP x) (sl (T1 (rt tP x)) (some ((b (t1 != 0)), [])) none) none)
noncomputable def ua3 (x : List Pln) : Bool := ea8 (one r1B) (ka3 x)
noncomputable def ua4 (x : List Pln) : Bool := okO (one r1B) (ka3 x)
noncomputable def ib5 : Sum := ra1 (Aa2 tP) (fun x => .guard (ua4 x) (.ret ((one r1B).enc (ua3 x), [])))
theorem Kb2 : i6 prog G 51 ib5 := Ta3 (bd b51 Fb0) (one r1B) (o := ka3) fun x => C6 (by kernel_rfl)
end Go.Ev.Ce
end
namespace Go.Proofs
open Go.Shelf
shelf_lay_g Lays8.n4 Nm8 4 at Try 71 as Ce.growP
end Go.Proofs
namespace Go.Ev.Ce
open Go Go.Ev Go.Proofs
noncomputable def lc9 : List a7 := [i 0, i 0, i 0, i 0]
noncomputable def na9 : Sum := fun args blks => match args, blks with
 | [.v (.slice none 0 0), .v (.int .i64 n)], [] => .ite (n == 0) (.ret (.v (.slice none 0 0), []))
   (.guard (Bool.and (decide (0 < n)) (Nat.ble (n.toNat * 32) room)) (.ret (.sl 0 0 0 0, [⟨42, 4, List.replicate n.toNat lc9, true, false, 0⟩])))
 | _, _ => .fail
theorem z42 : zeT Try.prog 42 = some lc9 := by kernel_rfl
theorem s50 : szT Try.prog 42 = 4 := by kernel_rfl
theorem y50 : byT Try.prog 42 = 32 := by kernel_rfl
theorem t25 : Ce.growP_ren.t 25 = 42 := by kernel_rfl
theorem f4 : Ce.growP_ren.f 4 = 71 := by kernel_rfl
set_option maxRecDepth 100000 in
theorem ib6 : i6 prog G 71 na9 := by
 intro args blks r out he W ρ F w args' hH hlen hargs hG
 refine ⟨⟨_, Try.func71, by kernel_rfl, of_decide_eq_true (by kernel_rfl)⟩, ?_⟩
 unfold na9 at he
 split at he
 case h_2 => cases he
 rename_i n
 match args', hlen with
 | [v0, v1], _ =>
 have e0 := S3 (hargs 0 _ _ rfl rfl)
 have e1 := S3 (hargs 1 _ _ rfl rfl)
 subst e0 e1
 rcases DT.run_ite_some he with ⟨h0, he⟩ | ⟨h0, he⟩
 ·have h0 : n = 0 := by simpa using h0
  subst h0
  injection he with he; injection he with q1 q2; subst q1 q2
  have := Any8.slices_Grow_room Ce.growP none 0 0 0 w (Nat.le_refl _) (by omega) (by omega) (by omega)
  rw [f4] at this
  refine this.mono fun e w' ⟨h1, h2⟩ => ?_
  subst h1 h2
  exact ⟨_, rfl, ρ, F, .refl, hH, .ofv _⟩
 ·obtain ⟨hg, he⟩ := DT.run_guard_some he
  rw [Bool.and_eq_true, decide_eq_true_eq] at hg
  obtain ⟨hpos, hroom⟩ := hg
  have hroom := Nat.le_of_ble_eq_true hroom
  unfold room at hroom
  obtain ⟨m, rfl⟩ := Int.eq_ofNat_of_zero_le (Int.le_of_lt hpos)
  have hm : 0 < m := by omega
  have he : some (a7.sl 0 0 0 0, [(⟨42, 4, List.replicate m lc9, true, false, 0⟩ : a8)]) = some (r, out) := he
  injection he with he; injection he with q1 q2; subst q1 q2
  obtain ⟨ti, zv, hi, hzz, hzr, hone⟩ := wa8 (E := En []) z42
  have hi : Try.prog.info? 42 = some ti := hi
  have hts : ti.size = 4 := by have := s50; simp only [szT, hi] at this; exact this
  have hby : ti.bytes = 32 := by have := y50; simp only [byT, hi] at this; exact this
  have hzs : zv.cells.size = 4 := by
   have := congrArg List.length hzr
   simpa [lc9] using this.symm
  have hroom' : m * 32 ≤ 140737488355328 := hroom
  have := Any8.slices_Grow_grow Ce.growP ti zv (by rw [t25]; exact hi) hzz (by omega) none 0 0 m [] w (Nat.le_refl _) (by omega) (by rw [hby]; omega) (by omega) (by simp) (fun _ => rfl) (fun a ha => by cases ha)
  rw [f4, t25] at this
  refine this.mono fun e w' ⟨h1, h2⟩ => ?_
  have hcap := grownCap_ge w (0 + m) 0 42
  have hcap2 := grownCap_le_maxLen w (0 + m) 0 42 (by unfold maxLen; omega)
  subst h1
  generalize grownCap w (0 + m) 0 42 = G' at *
  have hsz : ∀ q, (Builtin.zeroCells zv.cells q).size = q * 4 := fun q => by simp [Builtin.zeroCells, hzs]
  have hcc : (#[] ++ Builtin.zeroCells zv.cells (0 + m - 0) ++ Builtin.zeroCells zv.cells (G' - (0 + m))).size = G' * 4 := by
   rw [Array.size_append, Array.size_append, hsz, hsz]
   simp
   omega
  have hobj : w'.heap[w.heap.size]? = some (.cells (#[] ++ Builtin.zeroCells zv.cells (0 + m - 0) ++ Builtin.zeroCells zv.cells (G' - (0 + m))) 42 (0, 0)) := by
   rw [h2]
   exact World.alloc_heap_new w.drew _
  have hold : ∀ k, k < w.heap.size → w'.heap[k]? = w.heap[k]? := fun k hk => by
   rw [h2]
   simp only [World.alloc, Array.getElem?_push, World.drew]
   rw [if_neg (by omega)]
  have hws : w'.heap.size = w.heap.size + 1 := by rw [h2]; exact Array.size_push ..
  obtain ⟨h6, h7⟩ := hH.newAt (w' := w') (by rw [h2]; rfl) (by rw [h2]; rfl) (by rw [h2]; rfl) (by rw [h2]; exact Nat.le_succ _) (by omega) hold w.heap.size (Nat.le_refl _) 42 4 (List.replicate m lc9) _ 42 hobj
   (fun j r hr => by rw [List.getElem?_replicate] at hr; split at hr <;> cases hr; rfl) (by rw [List.length_replicate, hcc]; omega)
   (fun j r c x hr hx => by
    have hjm : j < m := by
     have := (List.getElem?_eq_some_iff.1 hr).1
     simpa using this
    rw [List.getElem?_replicate, if_pos hjm] at hr
    injection hr with hr
    subst hr
    have hc4 : c < 4 := (List.getElem?_eq_some_iff.1 hx).1
    rw [hzr, List.getElem?_map] at hx
    have hcz : c < zv.cells.size := by omega
    have hq : zv.cells.toList[c]? = some zv.cells[c] := by simp [hcz]
    rw [hq] at hx
    injection hx with hx
    subst hx
    refine ⟨zv.cells[c], ?_, .v _ (hone _ (by simp))⟩
    have hlt : j * 4 + c < m * 4 := by omega
    rw [Array.append_assoc, Array.empty_append, Array.getElem?_append_left (by rw [hsz]; omega)]
    have hm4 : (j * 4 + c) % 4 = c := by omega
    simp only [Builtin.zeroCells, hzs]
    rw [Array.getElem?_map, Array.getElem?_range]
    rw [if_pos (by omega)]
    simp [hm4, hcz])
   (fun _ => rfl)
  refine ⟨_, rfl, _, F, h6, h7, .val (.cell ?_)⟩
  refine .sl 0 0 0 0 _ _ { et := 42, es := 4, elems := List.replicate m lc9, own := true, dead := false, g := 0 } rfl rfl (Nat.le_refl _) (Nat.zero_le _) rfl hcap2 fun _ => ⟨.inr ?_, ?_, by simp⟩
  ·simp [ρnew]
  ·simp only [ρnew, List.length_nil, if_true]
   rw [hcc, Nat.zero_add]
end Go.Ev.Ce
section
namespace Go.Ev.Ce
open Go Go.Ev Go.Ev.L Go.Proofs
set_option maxRecDepth 100000
noncomputable def fa2 : List (Nat × Sum) := [(71, na9)]
theorem Ua2 : m8 prog G fa2 := ⟨ib6, trivial⟩
structure J7 where
 ia8 : List (List Pln)
 Wb7 : List (List Pln)
 wa1 : Int
structure o7 where
 is3 : Int
 O4 : Int
noncomputable def Ra5 (p : J7) (s : o7) : St := ⟨((eL (tLs tP) p.ia8) :: (.unk :: (.unk :: ((i s.is3) :: (ra 5 ((eL (tLs tP) p.Wb7) :: ((i p.wa1) :: ((i s.O4) :: (ra 24 []))))))))), []⟩
noncomputable def G6 {α : Type} (k : o7 → α) (e : Nat → α) (z : α) (p : J7) (s : o7) : α := (sl (decide (s.O4 < p.wa1)) (sl (inB s.O4 (List.length p.Wb7)) (sl (decide ((W (s.is3 + (↑(List.length (gL (tLs tP) p.Wb7 s.O4.toNat)) : Int))) < 0)) z (k ⟨(W (s.is3 + (↑(List.length (gL (tLs tP) p.Wb7 s.O4.toNat)) : Int))), (W (s.O4 + 1))⟩)) z) (e 1))
noncomputable def D5 (p : J7) (s : o7) : Stp o7 := G6 .next .exit .fail p s
noncomputable def da5 : Lo J7 o7 := ⟨En fa2, 0, sd6, [1, 1, 0, 1, 4, 4], [0, 3, 9, 10, 11], .p, [⟨((.s (.c 1 (nL (tLs tP)))) :: ((.s (.o .unk)) :: ((.s (.o .unk)) :: ((.s (.o (.int .i64))) :: (ru2 5 ((.s (.c 1 (nL (tLs tP)))) :: ((.s (.o (.int .i64))) :: ((.s (.o (.int .i64))) :: (ru2 24 []))))))))), [], fun a H => (⟨(rL (tLs tP) (slT a 0)), (rL (tLs tP) (slT a 9)), (toI (slT a 10))⟩, ⟨(toI (slT a 3)), (toI (slT a 11))⟩)⟩], D5, [(some 0, fun p s => ⟨((eL (tLs tP) p.ia8) :: (.unk :: (.unk :: ((i s.is3) :: (ra 5 ((eL (tLs tP) p.Wb7) :: ((i p.wa1) :: ((i s.O4) :: ((b (decide (s.O4 < p.wa1))) :: (ra 23 [])))))))))), []⟩)], Ra5⟩
theorem Ra6 : da5.OkM := Lo.okM [] (by kernel_rfl) .nil rfl (.cons (fun a H => by kernel_rfl) .nil) fun p s => (.of @G6 (fun F _ _ _ _ _ => by unfold G6; (repeat' apply z8 (f := F)) <;> rfl) (by kernel_rfl))
structure o8 where
 ca0 : List (List Pln)
 zc6 : Int
structure i4 where
 ph : Nat
 Oa1 : Int
 ns6 : Nat
 eh0 : List (List a7)
noncomputable def Ma9 (p : o8) (s : i4) : St := ⟨(ra 6 ((.v (.slice none 0 0)) :: (ra 18 ((eL (tLs tP) p.ca0) :: ((i p.zc6) :: ((i s.Oa1) :: (ra 8 []))))))), []⟩
noncomputable def Na0 (p : o8) (s : i4) : St := ⟨(ra 6 ((.sl 0 0 s.ns6 0) :: (ra 18 ((eL (tLs tP) p.ca0) :: ((i p.zc6) :: ((i s.Oa1) :: (ra 8 []))))))), [⟨42, 4, s.eh0, true, false, 0⟩]⟩
noncomputable def Ra7 (p : o8) (s : i4) : St := (sel (Nat.beq s.ph 1) (Na0 p s) (Ma9 p s))
noncomputable def v9 {α : Type} (k : i4 → α) (e : Nat → α) (z : α) (p : o8) (s : i4) : α := (sl (decide (s.Oa1 < p.zc6)) (sl (inB s.Oa1 (List.length p.ca0)) (sl (Nat.beq (len (o9 (fun k => (tP).row (gL tP (gL (tLs tP) p.ca0 s.Oa1.toNat) k)) (List.range (List.length (gL (tLs tP) p.ca0 s.Oa1.toNat))))) 0) (k ⟨0, (W (s.Oa1 + 1)), 0, []⟩) z) z) (e 1))
noncomputable def w6 {α : Type} (k : i4 → α) (e : Nat → α) (z : α) (p : o8) (s : i4) : α := (sl (decide (s.Oa1 < p.zc6)) (sl (inB s.Oa1 (List.length p.ca0)) (sl (Nat.ble (s.ns6 + (len (o9 (fun k => (tP).row (gL tP (gL (tLs tP) p.ca0 s.Oa1.toNat) k)) (List.range (List.length (gL (tLs tP) p.ca0 s.Oa1.toNat)))))) (len s.eh0)) (k ⟨1, (W (s.Oa1 + 1)), (s.ns6 + (len (o9 (fun k => (tP).row (gL tP (gL (tLs tP) p.ca0 s.Oa1.toNat) k)) (List.range (List.length (gL (tLs tP) p.ca0 s.Oa1.toNat)))))), (app (F4 s.eh0 s.ns6) (app (o9 (fun k => (tP).row (gL tP (gL (tLs tP) p.ca0 s.Oa1.toNat) k)) (List.range (List.length (gL (tLs tP) p.ca0 s.Oa1.toNat)))) (j7 s.eh0 (s.ns6 + (len (o9 (fun k => (tP).row (gL tP (gL (tLs tP) p.ca0 s.Oa1.toNat) k)) (List.range (List.length (gL (tLs tP) p.ca0 s.Oa1.toNat)))))))))⟩) z) z) (e 2))
noncomputable def z0 (p : o8) (s : i4) : Stp i4 := (sel (Nat.beq s.ph 1) (w6 .next .exit .fail p s) (v9 .next .exit .fail p s))
noncomputable def da6 : Lo o8 i4 := ⟨En fa2, 0, sd6, [1, 1, 1, 1, 0, 1, 4, 4], [6, 25, 26, 27], .p, [⟨(ru2 6 ((.s (.o .nil)) :: (ru2 18 ((.s (.c 1 (nL (tLs tP)))) :: ((.s (.o (.int .i64))) :: ((.s (.o (.int .i64))) :: (ru2 8 []))))))), [], fun a H => (⟨(rL (tLs tP) (slT a 25)), (toI (slT a 26))⟩, ⟨0, (toI (slT a 27)), 0, []⟩)⟩, ⟨(ru2 6 ((.s (.o (.sl 0 0 (some 0) none))) :: (ru2 18 ((.s (.c 1 (nL (tLs tP)))) :: ((.s (.o (.int .i64))) :: ((.s (.o (.int .i64))) :: (ru2 8 []))))))), [⟨42, 4, true, none⟩], fun a H => (⟨(rL (tLs tP) (slT a 25)), (toI (slT a 26))⟩, ⟨1, (toI (slT a 27)), (slN (slT a 6)), (elT H 0)⟩)⟩], z0, [(some 2, fun p s => ⟨(ra 6 ((.v (.slice none 0 0)) :: (ra 18 ((eL (tLs tP) p.ca0) :: ((i p.zc6) :: ((i s.Oa1) :: ((b (decide (s.Oa1 < p.zc6))) :: (ra 7 [])))))))), []⟩), (some 2, fun p s => ⟨(ra 6 ((.sl 0 0 s.ns6 0) :: (ra 18 ((eL (tLs tP) p.ca0) :: ((i p.zc6) :: ((i s.Oa1) :: ((b (decide (s.Oa1 < p.zc6))) :: (ra 7 [])))))))), [⟨42, 4, s.eh0, true, false, 0⟩]⟩)], Ra7⟩
theorem Ra8 : da6.OkM := Lo.okM [] (by kernel_rfl) .nil rfl (.cons (fun a H => by kernel_rfl) (.cons (fun a H => by kernel_rfl) .nil)) fun p s => (.sel (Nat.beq s.ph 1) (.of @w6 (fun F _ _ _ _ _ => by unfold w6; (repeat' apply z8 (f := F)) <;> rfl) (by kernel_rfl)) (.of @v9 (fun F _ _ _ _ _ => by unfold v9; (repeat' apply z8 (f := F)) <;> rfl) (by kernel_rfl)))
structure Y1 where
 alt : Nat
 ns0 : Nat
 eh0 : List (List a7)
noncomputable def H6 {α : Type} (kk : Y1 → α) (x : List (List Pln)) : α := let t1 := (lp (D5 (⟨(rt (tLs tP) x), (rt (tLs tP) x), (↑(List.length x) : Int)⟩ : J7)) (⟨0, 0⟩ : o7)); let t2 := (lp (z0 (⟨(rt (tLs tP) (rt (tLs tP) x)), (↑(List.length (rt (tLs tP) x)) : Int)⟩ : o8)) (⟨0, 0, 0, []⟩ : i4)); let t3 := (lp (z0 (⟨(rt (tLs tP) (rt (tLs tP) x)), (↑(List.length (rt (tLs tP) x)) : Int)⟩ : o8)) (⟨1, 0, 0, (List.replicate t1.2.is3.toNat lc9)⟩ : i4)); (sl ((cnE (tLs tP) x) && ((cnE (tLs tP) x) && true)) (sl (Nat.beq t1.1 1) (sl (t1.2.is3 == 0) (sl ((cnE (tLs tP) (rt (tLs tP) x)) && true) (sl (Nat.beq t2.1 1) (kk ⟨1, 0, []⟩) (sl (Nat.beq t2.1 2) (kk ⟨2, t2.2.ns6, t2.2.eh0⟩) (kk ⟨0, 0, []⟩))) (kk ⟨0, 0, []⟩)) (sl (Bool.and (decide (0 < t1.2.is3)) (Nat.ble (t1.2.is3.toNat * 32) room)) (sl ((cnE (tLs tP) (rt (tLs tP) x)) && true) (sl (Nat.beq t3.1 1) (kk ⟨1, 0, []⟩) (sl (Nat.beq t3.1 2) (kk ⟨2, t3.2.ns6, t3.2.eh0⟩) (kk ⟨0, 0, []⟩))) (kk ⟨0, 0, []⟩)) (kk ⟨0, 0, []⟩))) (kk ⟨0, 0, []⟩)) (kk ⟨0, 0, []⟩))
noncomputable def Y2 (x : List (List Pln)) : Y1 := H6 (fun r => r) x
noncomputable def fa3 (r : Y1) : DT (a7 × List a8) := (.ite (Nat.beq r.alt 1) (.ret ((.v (.slice none 0 0)), [])) (.ite (Nat.beq r.alt 2) (.ret ((.sl 0 0 r.ns0 0), [⟨42, 4, r.eh0, true, false, 0⟩])) .fail))
theorem cb1 {α β : Type} (F : α → β) (kk : Y1 → α) (x : List (List Pln)) : F (H6 kk x) = H6 (fun r => F (kk r)) x := by unfold H6; (repeat' apply z8 (f := F)) <;> rfl
noncomputable def wa3 : Sum := ra1 (Aa2 (tLs tP)) (fun x => fa3 (Y2 x))
theorem Za0 : i6 prog G 52 wa3 := xb0 (bd b52 Ua2) fun x => od1 (.s .p (.s .p (.s (.s .p (.b (.u da5.lsM))) (.s .p (.s (.s .p (.b (.u da6.lsM))) .p))))) [da5.prM, da6.prM] (by kernel_rfl) (.cons Ra6 (.cons Ra8 .nil)) (Eq.trans (b := H6 (fun r => (fa3 r).run) x) (by kernel_rfl) (cb1 (fun r => (fa3 r).run) (fun r => r) x).symm)
noncomputable def Ec9 : List (Nat × Sum) := [(52, wa3)]
theorem vc7 : m8 prog G Ec9 := ⟨Za0, trivial⟩
noncomputable def Ua3 (x : List (List Pln)) : Option (a7 × List a8) := let t1 := (Y2 (rt (tLs tP) x)); (sl (okE (tLs tP) x) (sl (Nat.beq t1.alt 1) (some ((.sl 0 0 6 0), [⟨42, 4, [[(i 1), (i 0), (i 0), (i 24)], [(i (-1)), (i 0), (i 0), (i 24)], [(i 0), (i 1), (i 0), (i 24)], [(i 0), (i (-1)), (i 0), (i 24)], [(i 0), (i 0), (i 1), (i 24)], [(i 0), (i 0), (i (-1)), (i 24)]], true, false, 0⟩])) (sl (Nat.beq t1.alt 2) (sl (Nat.beq t1.ns0 (len t1.eh0) && Nat.ble ((t1.ns0 + 1) * 32) room) (sl (Nat.beq (t1.ns0 + 1) (len (app t1.eh0 [[(i 1), (i 0), (i 0), (i 24)]])) && Nat.ble (((t1.ns0 + 1) + 1) * 32) room) (sl (Nat.beq ((t1.ns0 + 1) + 1) (len (app (app t1.eh0 [[(i 1), (i 0), (i 0), (i 24)]]) [[(i (-1)), (i 0), (i 0), (i 24)]])) && Nat.ble ((((t1.ns0 + 1) + 1) + 1) * 32) room) (sl (Nat.beq (((t1.ns0 + 1) + 1) + 1) (len (app (app (app t1.eh0 [[(i 1), (i 0), (i 0), (i 24)]]) [[(i (-1)), (i 0), (i 0), (i 24)]]) [[(i 0), (i 1), (i 0), (i 24)]])) && Nat.ble (((((t1.ns0 + 1) + 1) + 1) + 1) * 32) room) (sl (Nat.beq ((((t1.ns0 + 1) + 1) + 1) + 1) (len (app (app (app (app t1.eh0 [[(i 1), (i 0), (i 0), (i 24)]]) [[(i (-1)), (i 0), (i 0), (i 24)]]) [[(i 0), (i 1), (i 0), (i 24)]]) [[(i 0), (i (-1)), (i 0), (i 24)]])) && Nat.ble ((((((t1.ns0 + 1) + 1) + 1) + 1) + 1) * 32) room) (sl (Nat.beq (((((t1.ns0 + 1) + 1) + 1) + 1) + 1) (len (app (app (app (app (app t1.eh0 [[(i 1), (i 0), (i 0), (i 24)]]) [[(i (-1)), (i 0), (i 0), (i 24)]]) [[(i 0), (i 1), (i 0), (i 24)]]) [[(i 0), (i (-1)), (i 0), (i 24)]]) [[(i 0), (i 0), (i 1), (i 24)]])) && Nat.ble (((((((t1.ns0 + 1) + 1) + 1) + 1) + 1) + 1) * 32) room) (some ((.sl 0 0 ((((((t1.ns0 + 1) + 1) + 1) + 1) + 1) + 1) 0), [⟨42, 4, (app (app (app (app (app (app t1.eh0 [[(i 1), (i 0), (i 0), (i 24)]]) [[(i (-1)), (i 0), (i 0), (i 24)]]) [[(i 0), (i 1), (i 0), (i 24)]]) [[(i 0), (i (-1)), (i 0), (i 24)]]) [[(i 0), (i 0), (i 1), (i 24)]]) [[(i 0), (i 0), (i (-1)), (i 24)]]), true, false, 0⟩])) none) none) none) none) none) none) none)) none)
noncomputable def ya0 (x : List (List Pln)) : List Pln := ea8 (one (r1L tP)) (Ua3 x)
noncomputable def ya1 (x : List (List Pln)) : Bool := okO (one (r1L tP)) (Ua3 x)
noncomputable def nb0 : Sum := ra1 (Aa2 (tLs tP)) (fun x => .guard (ya1 x) (.ret ((one (r1L tP)).enc (ya0 x), [])))
theorem sb9 : i6 prog G 27 nb0 := Ta3 (bd b27 vc7) (one (r1L tP)) (o := Ua3) fun x => C6 (by kernel_rfl)
structure M5 where
 ia8 : List (List Pln)
noncomputable def ka4 : List (Nat × Sum) := [(51, ib5)]
theorem Ga3 : m8 prog G ka4 := ⟨Kb2, trivial⟩
structure E4 where
 ia8 : List (List Pln)
 is7 : Int
structure l0 where
 is8 : Int
noncomputable def Da4 (p : E4) (s : l0) : St := ⟨((eL (tLs tP) p.ia8) :: ((.fn 51 []) :: (ra 5 ((i p.is7) :: ((i s.is8) :: (ra 10 [])))))), []⟩
noncomputable def A4 {α : Type} (k : l0 → α) (e : Nat → α) (z : α) (p : E4) (s : l0) : α := let t1 := (ua3 (rt tP (gL (tLs tP) p.ia8 s.is8.toNat))); (sl (decide (s.is8 < p.is7)) (sl (inB s.is8 (List.length p.ia8)) (sl (okE tP (gL (tLs tP) p.ia8 s.is8.toNat)) (sl (ua4 (rt tP (gL (tLs tP) p.ia8 s.is8.toNat))) (sl t1 (e 1) (k ⟨(W (s.is8 + 1))⟩)) z) z) z) (e 2))
noncomputable def D0 (p : E4) (s : l0) : Stp l0 := A4 .next .exit .fail p s
noncomputable def T2 : Lo E4 l0 := ⟨En ka4, 0, zd3, [1, 0, 1, 4, 4], [0, 1, 7, 8], .p, [⟨((.s (.c 1 (nL (tLs tP)))) :: ((.s (.o (.fn 51))) :: (ru2 5 ((.s (.o (.int .i64))) :: ((.s (.o (.int .i64))) :: (ru2 10 [])))))), [], fun a H => (⟨(rL (tLs tP) (slT a 0)), (toI (slT a 7))⟩, ⟨(toI (slT a 8))⟩)⟩], D0, [(none, fun p s => ⟨[(i s.is8)], []⟩), (some 0, fun p s => ⟨((eL (tLs tP) p.ia8) :: ((.fn 51 []) :: (ra 5 ((i p.is7) :: ((i s.is8) :: ((b (decide (s.is8 < p.is7))) :: (ra 9 []))))))), []⟩)], Da4⟩
theorem Da5 : T2.Ok := Lo.ok [] (by kernel_rfl) .nil rfl (.cons (fun a H => by kernel_rfl) .nil) fun p s => (.of @A4 (fun F _ _ _ _ _ => by unfold A4; (repeat' apply z8 (f := F)) <;> rfl) (by kernel_rfl))
structure M6 where
 alt : Nat
 is0 : Int
noncomputable def B4 {α : Type} (kk : M6 → α) (x : M5) : α := let t1 := (lp (D0 (⟨(rt (tLs tP) x.ia8), (↑(List.length x.ia8) : Int)⟩ : E4)) (⟨0⟩ : l0)); (sl ((cnE (tLs tP) x.ia8) && true) (sl (Nat.beq t1.1 1) (kk ⟨1, t1.2.is8⟩) (sl (Nat.beq t1.1 2) (kk ⟨1, (-1)⟩) (kk ⟨0, 0⟩))) (kk ⟨0, 0⟩))
noncomputable def Y7 (x : M5) : M6 := B4 (fun r => r) x
noncomputable def W7 (x : M5) (r : M6) : DT (a7 × List a8) := (.ite (Nat.beq r.alt 1) (.ret ((i r.is0), [])) .fail)
theorem Na1 {α β : Type} (F : α → β) (kk : M6 → α) (x : M5) : F (B4 kk x) = B4 (fun r => F (kk r)) x := by unfold B4; (repeat' apply z8 (f := F)) <;> rfl
noncomputable def na0 : Sum := Ja1 ⟨[(.s (.c 1 (nL (tLs tP)))), (.s (.o (.fn 51)))], [], fun a H => (⟨(rL (tLs tP) (slT a 0))⟩, ())⟩ (fun x => W7 x (Y7 x))
theorem Ka2 : i6 prog G 70 na0 := L9 (enc := fun x => ⟨[(eL (tLs tP) x.ia8), (.fn 51 [])], []⟩) (fun a H => by kernel_rfl) (bd b70 Ga3) fun x => cb0 (.s .p (.s (.s .p (.b (.u T2.ls))) .p)) [T2.pr] (by kernel_rfl) (.cons Da5 .nil) (Eq.trans (b := B4 (fun r => (W7 x r).run) x) (by kernel_rfl) (Na1 (fun r => (W7 x r).run) (fun r => r) x).symm)
structure I7 where
 ia8 : List (List Pln)
noncomputable def Ba1 : List (Nat × Sum) := [(70, na0)]
theorem ya2 : m8 prog G Ba1 := ⟨Ka2, trivial⟩
structure I8 where
 alt : Nat
 bs0 : Bool
noncomputable def y5 {α : Type} (kk : I8 → α) (x : I7) : α := let t1 := (Y7 ⟨(rt (tLs tP) x.ia8)⟩); (sl ((cnE (tLs tP) x.ia8) && true) (sl (Nat.beq t1.alt 1) (kk ⟨1, (decide (t1.is0 ≥ 0))⟩) (kk ⟨0, false⟩)) (kk ⟨0, false⟩))
noncomputable def R6 (x : I7) : I8 := y5 (fun r => r) x
noncomputable def Q0 (x : I7) (r : I8) : DT (a7 × List a8) := (.ite (Nat.beq r.alt 1) (.ret ((b r.bs0), [])) .fail)
theorem Da6 {α β : Type} (F : α → β) (kk : I8 → α) (x : I7) : F (y5 kk x) = y5 (fun r => F (kk r)) x := by unfold y5; (repeat' apply z8 (f := F)) <;> rfl
noncomputable def ga5 : Sum := Ja1 ⟨[(.s (.c 1 (nL (tLs tP)))), (.s (.o (.fn 51)))], [], fun a H => (⟨(rL (tLs tP) (slT a 0))⟩, ())⟩ (fun x => Q0 x (R6 x))
theorem Ba2 : i6 prog G 50 ga5 := L9 (enc := fun x => ⟨[(eL (tLs tP) x.ia8), (.fn 51 [])], []⟩) (fun a H => by kernel_rfl) (bd b50 ya2) fun x => C6 (Eq.trans (b := y5 (fun r => (Q0 x r).run) x) (by kernel_rfl) (Da6 (fun r => (Q0 x r).run) (fun r => r) x).symm)
noncomputable def Zb0 : List (Nat × Sum) := [(50, ga5)]
theorem Tb7 : m8 prog G Zb0 := ⟨Ba2, trivial⟩
noncomputable def ua5 (x : List (List Pln)) : Option (a7 × List a8) := let t1 := (R6 ⟨(rt (tLs tP) x)⟩); (sl ((cnE (tLs tP) x) && true) (sl (Nat.beq t1.alt 1) (some ((b (!t1.bs0)), [])) none) none)
noncomputable def T3 (x : List (List Pln)) : Bool := ea8 (one r1B) (ua5 x)
noncomputable def T4 (x : List (List Pln)) : Bool := okO (one r1B) (ua5 x)
noncomputable def ma7 : Sum := ra1 (Aa2 (tLs tP)) (fun x => .guard (T4 x) (.ret ((one r1B).enc (T3 x), [])))
theorem pa0 : i6 prog G 26 ma7 := Ta3 (bd b26 Tb7) (one r1B) (o := ua5) fun x => C6 (by kernel_rfl)
structure T5 where
 la5 : Int
 la6 : Int
 la7 : Int
 La9 : Int
 n5 : Int
 f0 : Int
 n7 : Int
 d7 : Int
noncomputable def Ua4 : List (Nat × Sum) := [(32, Pa5)]
theorem Ra9 : m8 prog G Ua4 := ⟨Ya4, trivial⟩
structure K9 where
 bs0 : Bool
noncomputable def L0 {α : Type} (kk : K9 → α) (x : T5) : α := let t1 := (ea9 (⟨(⟨x.n5, x.f0, x.n7⟩ : V3), x.d7⟩ : Pln) (⟨x.la5, x.la6, x.la7, x.La9⟩ : Pt)); (kk ⟨(decide (t1 > 0))⟩)
noncomputable def fa4 (x : T5) : K9 := L0 (fun r => r) x
noncomputable def da7 (x : T5) (r : K9) : DT (a7 × List a8) := .ret ((b r.bs0), [⟨0, 4, [[(i x.n5), (i x.f0), (i x.n7), (i x.d7)]], true, false, 0⟩])
theorem Za1 {α β : Type} (F : α → β) (kk : K9 → α) (x : T5) : F (L0 kk x) = L0 (fun r => F (kk r)) x := by unfold L0; (repeat' apply z8 (f := F)) <;> rfl
noncomputable def ua6 : Sum := Ja1 ⟨[(.agg [(.o (.int .i64)), (.o (.int .i64)), (.o (.int .i64)), (.o (.int .i64))]), (.s (.o (.ptr 0 0 0 0)))], [⟨0, 4, true, (some [[(.o (.int .i64)), (.o (.int .i64)), (.o (.int .i64)), (.o (.int .i64))]])⟩], fun a H => (⟨(toI (slT (cellsOf (slT a 0)) 0)), (toI (slT (cellsOf (slT a 0)) 1)), (toI (slT (cellsOf (slT a 0)) 2)), (toI (slT (cellsOf (slT a 0)) 3)), (toI (slT (rwT (elT H 0) 0) 0)), (toI (slT (rwT (elT H 0) 0) 1)), (toI (slT (rwT (elT H 0) 0) 2)), (toI (slT (rwT (elT H 0) 0) 3))⟩, ())⟩ (fun x => da7 x (fa4 x))
theorem Ua5 : i6 prog G 60 ua6 := L9 (enc := fun x => ⟨[(.agg [(i x.la5), (i x.la6), (i x.la7), (i x.La9)]), (.ptr 0 0 0 0)], [⟨0, 4, [[(i x.n5), (i x.f0), (i x.n7), (i x.d7)]], true, false, 0⟩]⟩) (fun a H => by kernel_rfl) (bd b60 Ra9) fun x => C6 (Eq.trans (b := L0 (fun r => (da7 x r).run) x) (by kernel_rfl) (Za1 (fun r => (da7 x r).run) (fun r => r) x).symm)
structure P1 where
 G8 : List Pt
 n5 : Int
 f0 : Int
 n7 : Int
 d7 : Int
noncomputable def na1 : List (Nat × Sum) := [(60, ua6)]
theorem Ka3 : m8 prog G na1 := ⟨Ua5, trivial⟩
structure F8 where
 G8 : List Pt
 is7 : Int
 n5 : Int
 f0 : Int
 n7 : Int
 d7 : Int
structure m9 where
 is8 : Int
noncomputable def Ga4 (p : F8) (s : m9) : St := ⟨((eL tX p.G8) :: ((.fn 60 [(.ptr 0 0 0 0)]) :: (ra 5 ((i p.is7) :: ((i s.is8) :: (ra 10 [])))))), [⟨0, 4, [[(i p.n5), (i p.f0), (i p.n7), (i p.d7)]], true, false, 0⟩]⟩
noncomputable def D1 {α : Type} (k : m9 → α) (e : Nat → α) (z : α) (p : F8) (s : m9) : α := let t1 := (fa4 ⟨(gL tX p.G8 s.is8.toNat).px, (gL tX p.G8 s.is8.toNat).py, (gL tX p.G8 s.is8.toNat).pz, (gL tX p.G8 s.is8.toNat).pw, p.n5, p.f0, p.n7, p.d7⟩); (sl (decide (s.is8 < p.is7)) (sl (inB s.is8 (List.length p.G8)) (sl t1.bs0 (e 1) (k ⟨(W (s.is8 + 1))⟩)) z) (e 2))
noncomputable def E5 (p : F8) (s : m9) : Stp m9 := D1 .next .exit .fail p s
noncomputable def W8 : Lo F8 m9 := ⟨En na1, 1, sd7, [1, 0, 1, 4, 4], [0, 1, 7, 8], .p, [⟨((.s (.c 4 (nL tX))) :: ((.fn 60 [(.o (.ptr 0 0 0 0))]) :: (ru2 5 ((.s (.o (.int .i64))) :: ((.s (.o (.int .i64))) :: (ru2 10 [])))))), [⟨0, 4, true, (some [[(.o (.int .i64)), (.o (.int .i64)), (.o (.int .i64)), (.o (.int .i64))]])⟩], fun a H => (⟨(rL tX (slT a 0)), (toI (slT a 7)), (toI (slT (rwT (elT H 0) 0) 0)), (toI (slT (rwT (elT H 0) 0) 1)), (toI (slT (rwT (elT H 0) 0) 2)), (toI (slT (rwT (elT H 0) 0) 3))⟩, ⟨(toI (slT a 8))⟩)⟩], E5, [(none, fun p s => ⟨[(i s.is8)], [⟨0, 4, [[(i p.n5), (i p.f0), (i p.n7), (i p.d7)]], true, false, 0⟩]⟩), (some 0, fun p s => ⟨((eL tX p.G8) :: ((.fn 60 [(.ptr 0 0 0 0)]) :: (ra 5 ((i p.is7) :: ((i s.is8) :: ((b (decide (s.is8 < p.is7))) :: (ra 9 []))))))), [⟨0, 4, [[(i p.n5), (i p.f0), (i p.n7), (i p.d7)]], true, false, 0⟩]⟩)], Ga4⟩
theorem Ga5 : W8.Ok := Lo.ok [] (by kernel_rfl) .nil rfl (.cons (fun a H => by kernel_rfl) .nil) fun p s => (.of @D1 (fun F _ _ _ _ _ => by unfold D1; (repeat' apply z8 (f := F)) <;> rfl) (by kernel_rfl))
structure P3 where
 alt : Nat
 is0 : Int
noncomputable def D6 {α : Type} (kk : P3 → α) (x : P1) : α := let t1 := (lp (E5 (⟨(rt tX x.G8), (↑(List.length x.G8) : Int), x.n5, x.f0, x.n7, x.d7⟩ : F8)) (⟨0⟩ : m9)); (sl ((cnE tX x.G8) && true) (sl (Nat.beq t1.1 1) (kk ⟨1, t1.2.is8⟩) (sl (Nat.beq t1.1 2) (kk ⟨1, (-1)⟩) (kk ⟨0, 0⟩))) (kk ⟨0, 0⟩))
noncomputable def ba2 (x : P1) : P3 := D6 (fun r => r) x
noncomputable def Y8 (x : P1) (r : P3) : DT (a7 × List a8) := (.ite (Nat.beq r.alt 1) (.ret ((i r.is0), [⟨0, 4, [[(i x.n5), (i x.f0), (i x.n7), (i x.d7)]], true, false, 0⟩])) .fail)
theorem Sa0 {α β : Type} (F : α → β) (kk : P3 → α) (x : P1) : F (D6 kk x) = D6 (fun r => F (kk r)) x := by unfold D6; (repeat' apply z8 (f := F)) <;> rfl
noncomputable def pa1 : Sum := Ja1 ⟨[(.s (.c 4 (nL tX))), (.fn 60 [(.o (.ptr 0 0 0 0))])], [⟨0, 4, true, (some [[(.o (.int .i64)), (.o (.int .i64)), (.o (.int .i64)), (.o (.int .i64))]])⟩], fun a H => (⟨(rL tX (slT a 0)), (toI (slT (rwT (elT H 0) 0) 0)), (toI (slT (rwT (elT H 0) 0) 1)), (toI (slT (rwT (elT H 0) 0) 2)), (toI (slT (rwT (elT H 0) 0) 3))⟩, ())⟩ (fun x => Y8 x (ba2 x))
theorem Na2 : i6 prog G 61 pa1 := L9 (enc := fun x => ⟨[(eL tX x.G8), (.fn 60 [(.ptr 0 0 0 0)])], [⟨0, 4, [[(i x.n5), (i x.f0), (i x.n7), (i x.d7)]], true, false, 0⟩]⟩) (fun a H => by kernel_rfl) (bd b61 Ka3) fun x => cb0 (.s .p (.s (.s .p (.b (.u W8.ls))) .p)) [W8.pr] (by kernel_rfl) (.cons Ga5 .nil) (Eq.trans (b := D6 (fun r => (Y8 x r).run) x) (by kernel_rfl) (Sa0 (fun r => (Y8 x r).run) (fun r => r) x).symm)
structure K0 where
 G8 : List Pt
 n5 : Int
 f0 : Int
 n7 : Int
 d7 : Int
noncomputable def Da7 : List (Nat × Sum) := [(61, pa1)]
theorem Ba3 : m8 prog G Da7 := ⟨Na2, trivial⟩
structure K1 where
 alt : Nat
 bs0 : Bool
noncomputable def z5 {α : Type} (kk : K1 → α) (x : K0) : α := let t1 := (ba2 ⟨(rt tX x.G8), x.n5, x.f0, x.n7, x.d7⟩); (sl ((cnE tX x.G8) && true) (sl (Nat.beq t1.alt 1) (kk ⟨1, (decide (t1.is0 ≥ 0))⟩) (kk ⟨0, false⟩)) (kk ⟨0, false⟩))
noncomputable def T6 (x : K0) : K1 := z5 (fun r => r) x
noncomputable def R7 (x : K0) (r : K1) : DT (a7 × List a8) := (.ite (Nat.beq r.alt 1) (.ret ((b r.bs0), [⟨0, 4, [[(i x.n5), (i x.f0), (i x.n7), (i x.d7)]], true, false, 0⟩])) .fail)
theorem Ga6 {α β : Type} (F : α → β) (kk : K1 → α) (x : K0) : F (z5 kk x) = z5 (fun r => F (kk r)) x := by unfold z5; (repeat' apply z8 (f := F)) <;> rfl
noncomputable def ja0 : Sum := Ja1 ⟨[(.s (.c 4 (nL tX))), (.fn 60 [(.o (.ptr 0 0 0 0))])], [⟨0, 4, true, (some [[(.o (.int .i64)), (.o (.int .i64)), (.o (.int .i64)), (.o (.int .i64))]])⟩], fun a H => (⟨(rL tX (slT a 0)), (toI (slT (rwT (elT H 0) 0) 0)), (toI (slT (rwT (elT H 0) 0) 1)), (toI (slT (rwT (elT H 0) 0) 2)), (toI (slT (rwT (elT H 0) 0) 3))⟩, ())⟩ (fun x => R7 x (T6 x))
theorem Da8 : i6 prog G 37 ja0 := L9 (enc := fun x => ⟨[(eL tX x.G8), (.fn 60 [(.ptr 0 0 0 0)])], [⟨0, 4, [[(i x.n5), (i x.f0), (i x.n7), (i x.d7)]], true, false, 0⟩]⟩) (fun a H => by kernel_rfl) (bd b37 Ba3) fun x => C6 (Eq.trans (b := z5 (fun r => (R7 x r).run) x) (by kernel_rfl) (Ga6 (fun r => (R7 x r).run) (fun r => r) x).symm)
structure aa4 where
 la5 : Int
 la6 : Int
 la7 : Int
 La9 : Int
 i5 : List Pt
noncomputable def cb2 : List (Nat × Sum) := [(37, ja0)]
theorem Za2 : m8 prog G cb2 := ⟨Da8, trivial⟩
structure Q1 where
 alt : Nat
 bs0 : Bool
noncomputable def J8 {α : Type} (kk : Q1 → α) (x : aa4) : α := let t1 := (T6 ⟨(rt tX x.i5), x.la5, x.la6, x.la7, x.La9⟩); (sl ((cnE tX x.i5) && true) (sl (Nat.beq t1.alt 1) (kk ⟨1, (!t1.bs0)⟩) (kk ⟨0, false⟩)) (kk ⟨0, false⟩))
noncomputable def aa5 (x : aa4) : Q1 := J8 (fun r => r) x
noncomputable def ia6 (x : aa4) (r : Q1) : DT (a7 × List a8) := (.ite (Nat.beq r.alt 1) (.ret ((b r.bs0), [⟨0, 1, [[(eL tX x.i5)]], true, false, 0⟩])) .fail)
theorem ib7 {α β : Type} (F : α → β) (kk : Q1 → α) (x : aa4) : F (J8 kk x) = J8 (fun r => F (kk r)) x := by unfold J8; (repeat' apply z8 (f := F)) <;> rfl
noncomputable def Ba4 : Sum := Ja1 ⟨[(.agg [(.o (.int .i64)), (.o (.int .i64)), (.o (.int .i64)), (.o (.int .i64))]), (.s (.o (.ptr 0 0 0 0)))], [⟨0, 1, true, (some [[(.c 4 (nL tX))]])⟩], fun a H => (⟨(toI (slT (cellsOf (slT a 0)) 0)), (toI (slT (cellsOf (slT a 0)) 1)), (toI (slT (cellsOf (slT a 0)) 2)), (toI (slT (cellsOf (slT a 0)) 3)), (rL tX (slT (rwT (elT H 0) 0) 0))⟩, ())⟩ (fun x => ia6 x (aa5 x))
theorem cb3 : i6 prog G 59 Ba4 := L9 (enc := fun x => ⟨[(.agg [(i x.la5), (i x.la6), (i x.la7), (i x.La9)]), (.ptr 0 0 0 0)], [⟨0, 1, [[(eL tX x.i5)]], true, false, 0⟩]⟩) (fun a H => by kernel_rfl) (bd b59 Za2) fun x => C6 (Eq.trans (b := J8 (fun r => (ia6 x r).run) x) (by kernel_rfl) (ib7 (fun r => (ia6 x r).run) (fun r => r) x).symm)
structure M7 where
 w7 : List Pln
 i5 : List Pt
noncomputable def ka5 : List (Nat × Sum) := [(59, Ba4)]
theorem Ga7 : m8 prog G ka5 := ⟨cb3, trivial⟩
structure E6 where
 w7 : List Pln
 is7 : Int
structure l4 where
 is8 : Int
 i5 : List Pt
noncomputable def Da9 (p : E6) (s : l4) : St := ⟨((eL tP p.w7) :: ((.fn 59 [(.ptr 0 0 0 0)]) :: (ra 5 ((i p.is7) :: ((i s.is8) :: (ra 10 [])))))), [⟨0, 1, [[(eL tX s.i5)]], true, false, 0⟩]⟩
noncomputable def A5 {α : Type} (k : l4 → α) (e : Nat → α) (z : α) (p : E6) (s : l4) : α := let t1 := (aa5 ⟨(gL tP p.w7 s.is8.toNat).n.x, (gL tP p.w7 s.is8.toNat).n.y, (gL tP p.w7 s.is8.toNat).n.z, (gL tP p.w7 s.is8.toNat).b, (rt tX s.i5)⟩); (sl (decide (s.is8 < p.is7)) (sl (inB s.is8 (List.length p.w7)) (sl ((cnE tX s.i5) && true) (sl (Nat.beq t1.alt 1) (sl t1.bs0 (e 1) (k ⟨(W (s.is8 + 1)), (rt tX s.i5)⟩)) z) z) z) (e 2))
noncomputable def D2 (p : E6) (s : l4) : Stp l4 := A5 .next .exit .fail p s
noncomputable def T7 : Lo E6 l4 := ⟨En ka5, 1, zd5, [1, 0, 1, 4, 4], [0, 1, 7, 8], .p, [⟨((.s (.c 4 (nL tP))) :: ((.fn 59 [(.o (.ptr 0 0 0 0))]) :: (ru2 5 ((.s (.o (.int .i64))) :: ((.s (.o (.int .i64))) :: (ru2 10 [])))))), [⟨0, 1, true, (some [[(.c 4 (nL tX))]])⟩], fun a H => (⟨(rL tP (slT a 0)), (toI (slT a 7))⟩, ⟨(toI (slT a 8)), (rL tX (slT (rwT (elT H 0) 0) 0))⟩)⟩], D2, [(none, fun p s => ⟨[(i s.is8)], [⟨0, 1, [[(eL tX (rt tX s.i5))]], true, false, 0⟩]⟩), (some 0, fun p s => ⟨((eL tP p.w7) :: ((.fn 59 [(.ptr 0 0 0 0)]) :: (ra 5 ((i p.is7) :: ((i s.is8) :: ((b (decide (s.is8 < p.is7))) :: (ra 9 []))))))), [⟨0, 1, [[(eL tX s.i5)]], true, false, 0⟩]⟩)], Da9⟩
theorem Ea0 : T7.Ok := Lo.ok [] (by kernel_rfl) .nil rfl (.cons (fun a H => by kernel_rfl) .nil) fun p s => (.of @A5 (fun F _ _ _ _ _ => by unfold A5; (repeat' apply z8 (f := F)) <;> rfl) (by kernel_rfl))
structure M8 where
 alt : Nat
 is0 : Int
 i5 : List Pt
noncomputable def B5 {α : Type} (kk : M8 → α) (x : M7) : α := let t1 := (lp (D2 (⟨(rt tP x.w7), (↑(List.length x.w7) : Int)⟩ : E6)) (⟨0, (rt tX x.i5)⟩ : l4)); (sl ((cnE tP x.w7) && ((cnE tX x.i5) && true)) (sl (Nat.beq t1.1 1) (kk ⟨1, t1.2.is8, (rt tX t1.2.i5)⟩) (sl (Nat.beq t1.1 2) (kk ⟨1, (-1), t1.2.i5⟩) (kk ⟨0, 0, []⟩))) (kk ⟨0, 0, []⟩))
noncomputable def Y9 (x : M7) : M8 := B5 (fun r => r) x
noncomputable def W9 (x : M7) (r : M8) : DT (a7 × List a8) := (.ite (Nat.beq r.alt 1) (.ret ((i r.is0), [⟨0, 1, [[(eL tX r.i5)]], true, false, 0⟩])) .fail)
theorem Na3 {α β : Type} (F : α → β) (kk : M8 → α) (x : M7) : F (B5 kk x) = B5 (fun r => F (kk r)) x := by unfold B5; (repeat' apply z8 (f := F)) <;> rfl
noncomputable def na2 : Sum := Ja1 ⟨[(.s (.c 4 (nL tP))), (.fn 59 [(.o (.ptr 0 0 0 0))])], [⟨0, 1, true, (some [[(.c 4 (nL tX))]])⟩], fun a H => (⟨(rL tP (slT a 0)), (rL tX (slT (rwT (elT H 0) 0) 0))⟩, ())⟩ (fun x => W9 x (Y9 x))
theorem Ka4 : i6 prog G 85 na2 := L9 (enc := fun x => ⟨[(eL tP x.w7), (.fn 59 [(.ptr 0 0 0 0)])], [⟨0, 1, [[(eL tX x.i5)]], true, false, 0⟩]⟩) (fun a H => by kernel_rfl) (bd b85 Ga7) fun x => cb0 (.s .p (.s (.s .p (.b (.u T7.ls))) .p)) [T7.pr] (by kernel_rfl) (.cons Ea0 .nil) (Eq.trans (b := B5 (fun r => (W9 x r).run) x) (by kernel_rfl) (Na3 (fun r => (W9 x r).run) (fun r => r) x).symm)
structure I9 where
 w7 : List Pln
 i5 : List Pt
noncomputable def Ba5 : List (Nat × Sum) := [(85, na2)]
theorem ya3 : m8 prog G Ba5 := ⟨Ka4, trivial⟩
structure J0 where
 alt : Nat
 bs0 : Bool
 i5 : List Pt
noncomputable def y6 {α : Type} (kk : J0 → α) (x : I9) : α := let t1 := (Y9 ⟨(rt tP x.w7), (rt tX x.i5)⟩); (sl ((cnE tP x.w7) && ((cnE tX x.i5) && true)) (sl (Nat.beq t1.alt 1) (kk ⟨1, (decide (t1.is0 ≥ 0)), t1.i5⟩) (kk ⟨0, false, []⟩)) (kk ⟨0, false, []⟩))
noncomputable def R8 (x : I9) : J0 := y6 (fun r => r) x
noncomputable def Q3 (x : I9) (r : J0) : DT (a7 × List a8) := (.ite (Nat.beq r.alt 1) (.ret ((b r.bs0), [⟨0, 1, [[(eL tX r.i5)]], true, false, 0⟩])) .fail)
theorem Ea1 {α β : Type} (F : α → β) (kk : J0 → α) (x : I9) : F (y6 kk x) = y6 (fun r => F (kk r)) x := by unfold y6; (repeat' apply z8 (f := F)) <;> rfl
noncomputable def ga6 : Sum := Ja1 ⟨[(.s (.c 4 (nL tP))), (.fn 59 [(.o (.ptr 0 0 0 0))])], [⟨0, 1, true, (some [[(.c 4 (nL tX))]])⟩], fun a H => (⟨(rL tP (slT a 0)), (rL tX (slT (rwT (elT H 0) 0) 0))⟩, ())⟩ (fun x => Q3 x (R8 x))
theorem Ba6 : i6 prog G 58 ga6 := L9 (enc := fun x => ⟨[(eL tP x.w7), (.fn 59 [(.ptr 0 0 0 0)])], [⟨0, 1, [[(eL tX x.i5)]], true, false, 0⟩]⟩) (fun a H => by kernel_rfl) (bd b58 ya3) fun x => C6 (Eq.trans (b := y6 (fun r => (Q3 x r).run) x) (by kernel_rfl) (Ea1 (fun r => (Q3 x r).run) (fun r => r) x).symm)
noncomputable def ob1 : List (Nat × Sum) := [(28, ia5), (58, ga6)]
theorem ib8 : m8 prog G ob1 := ⟨ta7, Ba6, trivial⟩
noncomputable def X0 (x : List Pln) : Option (a7 × List a8) := let t1 := (N9 (rt tP x)); let t2 := (R8 ⟨(rt tP x), (rt tX t1)⟩); (sl (okE tP x) (sl (O0 (rt tP x)) (sl ((cnE tP x) && ((cnE tX t1) && true)) (sl (Nat.beq t2.alt 1) (some ((b (!t2.bs0)), [])) none) none) none) none)
noncomputable def X1 (x : List Pln) : Bool := ea8 (one r1B) (X0 x)
noncomputable def X2 (x : List Pln) : Bool := okO (one r1B) (X0 x)
noncomputable def ra3 : Sum := ra1 (Aa2 tP) (fun x => .guard (X2 x) (.ret ((one r1B).enc (X1 x), [])))
theorem Fa3 : i6 prog G 36 ra3 := Ta3 (bd b36 ib8) (one r1B) (o := X0) fun x => C6 (by kernel_rfl)
noncomputable def Tb8 : List (Nat × Sum) := [(26, ma7), (27, nb0), (28, ia5)]
theorem Kb3 : m8 prog G Tb8 := ⟨pa0, sb9, ta7, trivial⟩
noncomputable def pa2 (x : List Pln) : Option (a7 × List a8) := let t1 := (T3 [(rt tP x)]); let t2 := (ya0 [(rt tP x)]); let t3 := (N9 (rt tP t2)); (sl ((okE tP x) && true) (sl (T4 [(rt tP x)]) (sl (!t1) (some ((.v (.slice none 0 0)), [])) (sl ((okE tP x) && true) (sl (ya1 [(rt tP x)]) (sl (okE tP t2) (sl (O0 (rt tP t2)) (some ((eL tX t3), [])) none) none) none) none)) none) none)
noncomputable def V2 (x : List Pln) : List Pt := ea8 (one (r1L tX)) (pa2 x)
noncomputable def V4 (x : List Pln) : Bool := okO (one (r1L tX)) (pa2 x)
noncomputable def pa3 : Sum := ra1 (Aa2 tP) (fun x => .guard (V4 x) (.ret ((one (r1L tX)).enc (V2 x), [])))
theorem ua7 : i6 prog G 9 pa3 := Ta3 (bd b9 Kb3) (one (r1L tX)) (o := pa2) fun x => C6 (by kernel_rfl)
noncomputable def mc0 : List (Nat × Sum) := [(26, ma7), (27, nb0), (36, ra3)]
theorem Zb1 : m8 prog G mc0 := ⟨pa0, sb9, Fa3, trivial⟩
noncomputable def Ba7 (x : List Pln) : Option (a7 × List a8) := let t1 := (T3 [(rt tP x)]); let t2 := (ya0 [(rt tP x)]); let t3 := (X1 (rt tP t2)); (sl ((okE tP x) && true) (sl (T4 [(rt tP x)]) (sl t1 (sl ((okE tP x) && true) (sl (ya1 [(rt tP x)]) (sl (okE tP t2) (sl (X2 (rt tP t2)) (some ((b t3), [])) none) none) none) none) (some ((b false), []))) none) none)
noncomputable def V5 (x : List Pln) : Bool := ea8 (one r1B) (Ba7 x)
noncomputable def L5 (x : List Pln) : Bool := okO (one r1B) (Ba7 x)
noncomputable def sa1 : Sum := ra1 (Aa2 tP) (fun x => .guard (L5 x) (.ret ((one r1B).enc (V5 x), [])))
theorem ua8 : i6 prog G 20 sa1 := Ta3 (bd b20 Zb1) (one r1B) (o := Ba7) fun x => C6 (by kernel_rfl)
noncomputable def Zb2 : List (Nat × Sum) := []
theorem Tb9 : m8 prog G Zb2 := trivial
noncomputable def ua9 (x : Int) (y : Int) : Option (a7 × List a8) := (sl (y == 0) none (sl (y == 0) none (sl (decide ((Int.tmod x y) < 0)) (some ((i (W ((W (Int.tdiv x y)) - 1))), [])) (some ((i (W (Int.tdiv x y))), [])))))
noncomputable def T8 (x : Int) (y : Int) : Int := ea8 (one r1I) (ua9 x y)
noncomputable def T9 (x : Int) (y : Int) : Bool := okO (one r1I) (ua9 x y)
noncomputable def yb9 : Sum := oa3 cI cI (fun x y => .guard (T9 x y) (.ret ((one r1I).enc (T8 x y), [])))
theorem Zb3 : i6 prog G 25 yb9 := Db2 (bd b25 Tb9) (one r1I) (o := ua9) fun x y => C6 (by kernel_rfl)
noncomputable def pb9 : List (Nat × Sum) := [(20, sa1), (24, Ya3), (9, pa3), (25, yb9)]
theorem Ub0 : m8 prog G pb9 := ⟨ua8, pb7, ua7, Zb3, trivial⟩
structure ka6 where
 O5 : List Pt
 nd1 : Int
structure Q4 where
 X9 : Int
 Y3 : Int
 Y4 : Int
 Y5 : Int
 Bb6 : Int
 Bb7 : Int
 Bb8 : Int
noncomputable def Kb4 (p : ka6) (s : Q4) : St := ⟨(.unk :: (.unk :: ((.ptr 0 0 0 0) :: ((.ptr 1 0 0 0) :: (.unk :: ((.ptr 2 0 0 0) :: ((.ptr 3 0 0 0) :: (ra 11 ((eL tX p.O5) :: ((i p.nd1) :: ((i s.X9) :: (ra 62 [])))))))))))), [⟨0, 3, [[(i 0), (i 0), (i 0)]], true, false, 0⟩, ⟨0, 3, [[(i 0), (i 0), (i 0)]], true, false, 0⟩, ⟨0, 3, [[(i s.Y3), (i s.Y4), (i s.Y5)]], true, false, 0⟩, ⟨0, 3, [[(i s.Bb6), (i s.Bb7), (i s.Bb8)]], true, false, 0⟩]⟩
noncomputable def da8 {α : Type} (k : Q4 → α) (e : Nat → α) (z : α) (p : ka6) (s : Q4) : α := let t1 := (T8 (gL tX p.O5 s.X9.toNat).px (gL tX p.O5 s.X9.toNat).pw); let t2 := (T8 (gL tX p.O5 s.X9.toNat).py (gL tX p.O5 s.X9.toNat).pw); let t3 := (T8 (gL tX p.O5 s.X9.toNat).pz (gL tX p.O5 s.X9.toNat).pw); let t4 := (T8 (W (0 - (gL tX p.O5 s.X9.toNat).px)) (gL tX p.O5 s.X9.toNat).pw); let t5 := (T8 (W (0 - (gL tX p.O5 s.X9.toNat).py)) (gL tX p.O5 s.X9.toNat).pw); let t6 := (T8 (W (0 - (gL tX p.O5 s.X9.toNat).pz)) (gL tX p.O5 s.X9.toNat).pw); (sl (decide (s.X9 < p.nd1)) (sl (inB s.X9 (List.length p.O5)) (sl (T9 (gL tX p.O5 s.X9.toNat).px (gL tX p.O5 s.X9.toNat).pw) (sl (T9 (gL tX p.O5 s.X9.toNat).py (gL tX p.O5 s.X9.toNat).pw) (sl (T9 (gL tX p.O5 s.X9.toNat).pz (gL tX p.O5 s.X9.toNat).pw) (sl (T9 (W (0 - (gL tX p.O5 s.X9.toNat).px)) (gL tX p.O5 s.X9.toNat).pw) (sl (T9 (W (0 - (gL tX p.O5 s.X9.toNat).py)) (gL tX p.O5 s.X9.toNat).pw) (sl (T9 (W (0 - (gL tX p.O5 s.X9.toNat).pz)) (gL tX p.O5 s.X9.toNat).pw) (k ⟨(W (s.X9 + 1)), (if t1 < s.Y3 then t1 else s.Y3), (if t2 < s.Y4 then t2 else s.Y4), (if t3 < s.Y5 then t3 else s.Y5), (if (W (0 - t4)) > s.Bb6 then (W (0 - t4)) else s.Bb6), (if (W (0 - t5)) > s.Bb7 then (W (0 - t5)) else s.Bb7), (if (W (0 - t6)) > s.Bb8 then (W (0 - t6)) else s.Bb8)⟩) z) z) z) z) z) z) z) (e 1))
noncomputable def Z3 (p : ka6) (s : Q4) : Stp Q4 := da8 .next .exit .fail p s
noncomputable def Ka5 : Lo ka6 Q4 := ⟨En pb9, 0, pf8, [1, 1, 1, 1, 0, 1, 4, 4], [2, 3, 5, 6, 18, 19, 20], .p, [⟨((.s (.o .unk)) :: ((.s (.o .unk)) :: ((.s (.o (.ptr 0 0 0 0))) :: ((.s (.o (.ptr 1 0 0 0))) :: ((.s (.o .unk)) :: ((.s (.o (.ptr 2 0 0 0))) :: ((.s (.o (.ptr 3 0 0 0))) :: (ru2 11 ((.s (.c 4 (nL tX))) :: ((.s (.o (.int .i64))) :: ((.s (.o (.int .i64))) :: (ru2 62 [])))))))))))), [⟨0, 3, true, (some [[(.o (.lit .i64 0)), (.o (.lit .i64 0)), (.o (.lit .i64 0))]])⟩, ⟨0, 3, true, (some [[(.o (.lit .i64 0)), (.o (.lit .i64 0)), (.o (.lit .i64 0))]])⟩, ⟨0, 3, true, (some [[(.o (.int .i64)), (.o (.int .i64)), (.o (.int .i64))]])⟩, ⟨0, 3, true, (some [[(.o (.int .i64)), (.o (.int .i64)), (.o (.int .i64))]])⟩], fun a H => (⟨(rL tX (slT a 18)), (toI (slT a 19))⟩, ⟨(toI (slT a 20)), (toI (slT (rwT (elT H 2) 0) 0)), (toI (slT (rwT (elT H 2) 0) 1)), (toI (slT (rwT (elT H 2) 0) 2)), (toI (slT (rwT (elT H 3) 0) 0)), (toI (slT (rwT (elT H 3) 0) 1)), (toI (slT (rwT (elT H 3) 0) 2))⟩)⟩], Z3, [(some 0, fun p s => ⟨(.unk :: (.unk :: ((.ptr 0 0 0 0) :: ((.ptr 1 0 0 0) :: (.unk :: ((.ptr 2 0 0 0) :: ((.ptr 3 0 0 0) :: (ra 11 ((eL tX p.O5) :: ((i p.nd1) :: ((i s.X9) :: ((b (decide (s.X9 < p.nd1))) :: (ra 61 []))))))))))))), [⟨0, 3, [[(i 0), (i 0), (i 0)]], true, false, 0⟩, ⟨0, 3, [[(i 0), (i 0), (i 0)]], true, false, 0⟩, ⟨0, 3, [[(i s.Y3), (i s.Y4), (i s.Y5)]], true, false, 0⟩, ⟨0, 3, [[(i s.Bb6), (i s.Bb7), (i s.Bb8)]], true, false, 0⟩]⟩)], Kb4⟩
theorem Kb5 : Ka5.Ok := Lo.ok [] (by kernel_rfl) .nil rfl (.cons (fun a H => by kernel_rfl) .nil) fun p s => (.of @da8 (fun F _ _ _ _ _ => by unfold da8; (repeat' apply z8 (f := F)) <;> rfl) (by kernel_rfl))
noncomputable def va0 (x : List Pln) : Option (a7 × List a8) := let t1 := (V5 (rt tP x)); let t2 := (K8 (⟨24, 24, 24⟩ : V3) (-1)); let t3 := (V2 (rt tP x)); let t4 := (lp (Z3 (⟨(rt tX t3), (↑(List.length t3) : Int)⟩ : ka6)) (⟨0, 24, 24, 24, t2.x, t2.y, t2.z⟩ : Q4)); (sl (okE tP x) (sl (L5 (rt tP x)) (sl (!t1) (some ((.tup [(.agg [(i 0), (i 0), (i 0)]), (.agg [(i 0), (i 0), (i 0)]), (b false)]), [])) (sl (okE tP x) (sl (V4 (rt tP x)) (sl ((cnE tX t3) && true) (sl (Nat.beq t4.1 1) (some ((.tup [(.agg [(i t4.2.Y3), (i t4.2.Y4), (i t4.2.Y5)]), (.agg [(i t4.2.Bb6), (i t4.2.Bb7), (i t4.2.Bb8)]), (b true)]), [])) none) none) none) none)) none) none)
noncomputable def Ga8 (x : List Pln) : V3 × V3 × Bool := ea8 (sc7 r1V r1V r1B) (va0 x)
noncomputable def Ga9 (x : List Pln) : Bool := okO (sc7 r1V r1V r1B) (va0 x)
noncomputable def zb0 : Sum := ra1 (Aa2 tP) (fun x => .guard (Ga9 x) (.ret ((sc7 r1V r1V r1B).enc (Ga8 x), [])))
theorem Zb4 : i6 prog G 8 zb0 := Ta3 (bd b8 Ub0) (sc7 r1V r1V r1B) (o := va0) fun x => cb0 (.s .p (.s .p (.s .p (.s .p (.s (.s .p (.b (.u Ka5.ls))) .p))))) [Ka5.pr] (by kernel_rfl) (.cons Kb5 .nil) (by kernel_rfl)
end Go.Ev.Ce
end
namespace Go.Ev.Ce
open Go Go.Ev Go.Ev.L Go.Proofs
theorem Rc0 (P : ma5) (g n : Int) (hn : n.natAbs ≤ 9223372036854775808) : lp (oa4 P) ⟨g, n⟩ = (1, ⟨eu g n, 0⟩) :=
 gd7 (mk := fun g n => (⟨g, n⟩ : aa0)) (fun g n h => by simp [oa4, ja7, Xa3, h]) (fun g => by simp [oa4, ja7, Xa3]) g n hn
theorem Rc1 (l : List Int) (hl : l.length ≤ 1000000000) (hb : ∀ x ∈ l, x.natAbs ≤ 9223372036854775808) : lp (ha6 ⟨(l.length : Int)⟩) ⟨0, l, 0⟩ = (1, ⟨l.foldl eu 0, l, l.length⟩) := by
 have := Mb5 (step := ha6 ⟨(l.length : Int)⟩) (mk := fun j a => (⟨a, l, (j : Int)⟩ : aa1)) (f := eu) (fin := 1) tI l (fun _ _ => True) hl (fun j a hj _ => ⟨by
   simp only [ha6, ja8, Int.toNat_natCast, D9, F7, Rc0 _ _ _ (hb _ (kc3 tI hj)), L7 hj (by omega)]
   rw [bt (Rb7 hj), bt (q7 hj)]
   rfl, trivial⟩) (fun a _ => by simp [ha6, ja8, Xa3]) 0 (Nat.zero_le _) 0 trivial
 simpa using this.1
theorem zb1 : ∀ (l : List Int) (g : Int), (l.foldl eu g).natAbs = l.foldl (fun a x => Nat.gcd a x.natAbs) g.natAbs
 | [], _ => rfl
 | x :: l, g => by rw [List.foldl_cons, zb1 l, List.foldl_cons, Vc5]; rfl
theorem td0 (l : List Int) (hl : l.length ≤ 1000000000) (hb : ∀ x ∈ l, x.natAbs ≤ 9223372036854775807) (h0 : (l.foldl eu 0).natAbs ≤ 9223372036854775807) : Ja7 l = some (i ((l.foldl eu 0).natAbs : Int), []) := by
 unfold Ja7
 simp only [D9, F7, Rc1 l hl (fun x hx => Nat.le_succ_of_le (hb x hx))]
 generalize l.foldl eu 0 = e at *
 have : W (0 - e) = -e := by rw [ca5 (by omega) (by omega)]; omega
 rw [this]
 show some (i (if -e > e then -e else e), []) = _
 congr 3
 split <;> omega
noncomputable def rm (p : Pln) (x : Pt) : Int := W (p.b * x.pw - (p.n.x * x.px + p.n.y * x.py + p.n.z * x.pz))
theorem mc1 (p : Pln) (x : Pt) : ea9 p x = rm p x := by
 unfold ea9 Z9 rm
 simp only [gb3, Rb6, kc2, Dc4]
structure Bd (p : Pln) : Prop where
 x1 : -4608 ≤ p.n.x
 x2 : p.n.x ≤ 4608
 y1 : -4608 ≤ p.n.y
 y2 : p.n.y ≤ 4608
 z1 : -4608 ≤ p.n.z
 z2 : p.n.z ≤ 4608
 b1 : -2097152 ≤ p.b
 b2 : p.b ≤ 2097152
def mv (p q r : Pln) : V3 :=
 ⟨(o4 q.n r.n).x * p.b + (o4 r.n p.n).x * q.b + (o4 p.n q.n).x * r.b,
  (o4 q.n r.n).y * p.b + (o4 r.n p.n).y * q.b + (o4 p.n q.n).y * r.b,
  (o4 q.n r.n).z * p.b + (o4 r.n p.n).z * q.b + (o4 p.n q.n).z * r.b⟩
def gc (v : V3) (w : Int) : Int := (Nat.gcd (Nat.gcd v.x.natAbs v.y.natAbs) (Nat.gcd v.z.natAbs w.natAbs) : Nat)
def mpt (p q r : Pln) : Pt × Bool :=
 if mw p q r = 0 then (⟨0, 0, 0, 0⟩, false)
 else if mw p q r < 0 then (⟨Int.tdiv (-(mv p q r).x) (gc (mv p q r) (mw p q r)), Int.tdiv (-(mv p q r).y) (gc (mv p q r) (mw p q r)), Int.tdiv (-(mv p q r).z) (gc (mv p q r) (mw p q r)), Int.tdiv (-(mw p q r)) (gc (mv p q r) (mw p q r))⟩, true)
 else (⟨Int.tdiv (mv p q r).x (gc (mv p q r) (mw p q r)), Int.tdiv (mv p q r).y (gc (mv p q r) (mw p q r)), Int.tdiv (mv p q r).z (gc (mv p q r) (mw p q r)), Int.tdiv (mw p q r) (gc (mv p q r) (mw p q r))⟩, true)
def Sm (n : Int) (x : Int) : Prop := -n ≤ x ∧ x ≤ n
theorem zb2 {a b : V3} (ha : Sm 4608 a.x ∧ Sm 4608 a.y ∧ Sm 4608 a.z) (hb : Sm 4608 b.x ∧ Sm 4608 b.y ∧ Sm 4608 b.z) : Sm 42467328 (o4 a b).x ∧ Sm 42467328 (o4 a b).y ∧ Sm 42467328 (o4 a b).z := by
 obtain ⟨⟨a1, a2⟩, ⟨a3, a4⟩, a5, a6⟩ := ha
 obtain ⟨⟨b1, b2⟩, ⟨b3, b4⟩, b5, b6⟩ := hb
 have h1 := mb a3 a4 b5 b6; have h2 := mb a5 a6 b3 b4; have h3 := mb a5 a6 b1 b2; have h4 := mb a1 a2 b5 b6; have h5 := mb a1 a2 b3 b4; have h6 := mb a3 a4 b1 b2
 unfold Sm o4
 simp only
 omega
theorem Bd.n {p : Pln} (h : Bd p) : Sm 4608 p.n.x ∧ Sm 4608 p.n.y ∧ Sm 4608 p.n.z := ⟨⟨h.x1, h.x2⟩, ⟨h.y1, h.y2⟩, h.z1, h.z2⟩
theorem od2 {p q r : Pln} (hp : Bd p) (hq : Bd q) (hr : Bd r) : Sm 600000000000 (mw p q r) := by
 obtain ⟨⟨c1, c2⟩, ⟨c3, c4⟩, c5, c6⟩ := zb2 hq.n hr.n
 have h1 := mb hp.x1 hp.x2 c1 c2; have h2 := mb hp.y1 hp.y2 c3 c4; have h3 := mb hp.z1 hp.z2 c5 c6
 unfold Sm mw dot
 omega
theorem od3 {p q r : Pln} (hp : Bd p) (hq : Bd q) (hr : Bd r) : Sm 300000000000000 (mv p q r).x ∧ Sm 300000000000000 (mv p q r).y ∧ Sm 300000000000000 (mv p q r).z := by
 obtain ⟨⟨c1, c2⟩, ⟨c3, c4⟩, c5, c6⟩ := zb2 hq.n hr.n
 obtain ⟨⟨d1, d2⟩, ⟨d3, d4⟩, d5, d6⟩ := zb2 hr.n hp.n
 obtain ⟨⟨e1, e2⟩, ⟨e3, e4⟩, e5, e6⟩ := zb2 hp.n hq.n
 have a1 := mb c1 c2 hp.b1 hp.b2; have a2 := mb c3 c4 hp.b1 hp.b2; have a3 := mb c5 c6 hp.b1 hp.b2
 have b1 := mb d1 d2 hq.b1 hq.b2; have b2 := mb d3 d4 hq.b1 hq.b2; have b3 := mb d5 d6 hq.b1 hq.b2
 have f1 := mb e1 e2 hr.b1 hr.b2; have f2 := mb e3 e4 hr.b1 hr.b2; have f3 := mb e5 e6 hr.b1 hr.b2
 unfold Sm mv
 simp only
 omega
theorem Mb8 (a b : V3) : K4 a b = ⟨W (o4 a b).x, W (o4 a b).y, W (o4 a b).z⟩ := by
 unfold K4 o4
 simp only [kc2, Dc4]
theorem jd0 (a b : V3) : Aa3 a b = ⟨W (o4 a b).x, W (o4 a b).y, W (o4 a b).z⟩ := by
 unfold Aa3 o4
 simp only [kc2, Dc4]
theorem td1 (p q r : Pln) : dot r.n (o4 p.n q.n) = mw p q r := by unfold mw dot o4; grind
theorem Hd4 (a b c d : Nat) : [a, b, c, d].foldl Nat.gcd 0 = Nat.gcd (Nat.gcd a b) (Nat.gcd c d) := by
 simp only [List.foldl_cons, List.foldl_nil, Nat.gcd_zero_left]
 rw [Nat.gcd_assoc]
theorem mc2 {v : V3} {w : Int} (h : w ≠ 0) : 0 < gc v w := by
 unfold gc
 have : 0 < Nat.gcd v.z.natAbs w.natAbs := Nat.gcd_pos_of_pos_right _ (by omega)
 have := Nat.gcd_pos_of_pos_right (Nat.gcd v.x.natAbs v.y.natAbs) this
 omega
theorem od4 {v : V3} {w : Int} (h : w ≠ 0) : gc v w ≤ w.natAbs := by
 unfold gc
 have h1 : Nat.gcd v.z.natAbs w.natAbs ≤ w.natAbs := Nat.gcd_le_right _ (by omega)
 have h2 : 0 < Nat.gcd v.z.natAbs w.natAbs := Nat.gcd_pos_of_pos_right _ (by omega)
 have h3 := Nat.gcd_le_right (m := Nat.gcd v.x.natAbs v.y.natAbs) (n := Nat.gcd v.z.natAbs w.natAbs) h2
 omega
theorem Ua6 {x : Int} (h : Sm 1000000000000000000 x) : W x = x := ca5 (by have := h.1; omega) (by have := h.2; omega)
theorem Sm.mono {n m x : Int} (h : Sm n x) (hn : n ≤ m) : Sm m x := ⟨by have := h.1; omega, by have := h.2; omega⟩
theorem L1 {n x g : Int} (h : Sm n x) (hg : 0 < g) : Sm n (Int.tdiv x g) := by
 have h1 : (Int.tdiv x g).natAbs ≤ x.natAbs := by rw [Int.natAbs_tdiv]; exact Nat.div_le_self _ _
 have := h.1; have := h.2
 constructor <;> omega
theorem Fc0 {p q r : Pln} (hp : Bd p) (hq : Bd q) (hr : Bd r) (h : (mpt p q r).2 = true) : 0 < (mpt p q r).1.pw ∧ Sm 300000000000000 (mpt p q r).1.px ∧ Sm 300000000000000 (mpt p q r).1.py ∧ Sm 300000000000000 (mpt p q r).1.pz ∧ (mpt p q r).1.pw ≤ 600000000000 := by
 have hw := od2 hp hq hr
 obtain ⟨v1, v2, v3⟩ := od3 hp hq hr
 have neg : ∀ {n x : Int}, Sm n x → Sm n (-x) := fun h => ⟨by have := h.2; omega, by have := h.1; omega⟩
 have pos : ∀ {x : Int}, 0 < x → x.natAbs = (mw p q r).natAbs → 0 < Int.tdiv x (gc (mv p q r) (mw p q r)) := fun {x} hx he => by
  have h0 : mw p q r ≠ 0 := by omega
  have h1 := mc2 (v := mv p q r) h0
  have h2 := od4 (v := mv p q r) h0
  rw [Int.tdiv_eq_ediv_of_nonneg (by omega)]
  exact Int.ediv_pos_of_pos_of_dvd hx (by omega) (by
   rw [← Int.dvd_natAbs, he]
   exact Int.natCast_dvd_natCast.2 (Nat.dvd_trans (Nat.gcd_dvd_right _ _) (Nat.gcd_dvd_right _ _)))
 unfold mpt at h ⊢
 by_cases h0 : mw p q r = 0
 ·rw [if_pos h0] at h; cases h
 ·rw [if_neg h0]
  have hg := mc2 (v := mv p q r) h0
  by_cases h1 : mw p q r < 0
  ·rw [if_pos h1]
   exact ⟨pos (by omega) (by omega), L1 (neg v1) hg, L1 (neg v2) hg, L1 (neg v3) hg, (L1 (neg hw) hg).2⟩
  ·rw [if_neg h1]
   exact ⟨pos (by omega) rfl, L1 v1 hg, L1 v2 hg, L1 v3 hg, (L1 hw hg).2⟩
theorem Jc5 {p q r : Pln} (hp : Bd p) (hq : Bd q) (hr : Bd r) : Aa4 ⟨p, q, r⟩ = some (.tup [.agg (tX.row (mpt p q r).1), b (mpt p q r).2], []) := by
 have hw := od2 hp hq hr
 obtain ⟨v1, v2, v3⟩ := od3 hp hq hr
 have e1 : Z9 r.n (K4 p.n q.n) = mw p q r := by
  rw [Mb8]
  unfold Z9
  simp only [gb3, Rb6, rd5]
  show W (dot r.n (o4 p.n q.n)) = _
  rw [td1, Ua6 (hw.mono (by omega))]
 have e2 : L4 (L4 (L4 ⟨0, 0, 0⟩ (K8 (K4 q.n r.n) p.b)) (K8 (K4 r.n p.n) q.b)) (K8 (K4 p.n q.n) r.b) = mv p q r := by
  rw [Mb8, Mb8, Mb8]
  unfold L4 K8
  simp only [gb3, Rb6, Vc3, Int.zero_add]
  show (⟨W (mv p q r).x, W (mv p q r).y, W (mv p q r).z⟩ : V3) = _
  rw [Ua6 (v1.mono (by omega)), Ua6 (v2.mono (by omega)), Ua6 (v3.mono (by omega))]
 unfold Aa4
 simp only [e1, e2]
 have hb : ∀ x ∈ [(mv p q r).x, (mv p q r).y, (mv p q r).z, mw p q r], x.natAbs ≤ 9223372036854775807 := by
  intro x hx
  simp only [List.mem_cons, List.not_mem_nil, or_false] at hx
  unfold Sm at *
  rcases hx with rfl | rfl | rfl | rfl <;> omega
 have hf : ([(mv p q r).x, (mv p q r).y, (mv p q r).z, mw p q r].foldl eu 0).natAbs = Nat.gcd (Nat.gcd (mv p q r).x.natAbs (mv p q r).y.natAbs) (Nat.gcd (mv p q r).z.natAbs (mw p q r).natAbs) := by
  rw [zb1, ← Hd4]; rfl
 unfold mpt
 by_cases h0 : mw p q r = 0
 ·rw [bt (by rw [h0]; rfl), if_pos h0]
  rfl
 ·have hz : (mw p q r == 0) = false := by simpa using h0
  rw [bf hz, if_neg h0]
  have hgp := mc2 (v := mv p q r) h0
  have hgl := od4 (v := mv p q r) h0
  have hge := td0 _ (by simp) hb (by rw [hf]; unfold gc at hgl; unfold Sm at hw; omega)
  have hgv : Ya7 [(mv p q r).x, (mv p q r).y, (mv p q r).z, mw p q r] = gc (mv p q r) (mw p q r) := by
   unfold Ya7; rw [hge, hf]; rfl
  have hgg : Ya8 [(mv p q r).x, (mv p q r).y, (mv p q r).z, mw p q r] = true := by
   unfold Ya8; rw [hge]; rfl
  rw [hgv, bt hgg]
  generalize hG : gc (mv p q r) (mw p q r) = G at *
  have hGW : W (0 - G) = -G := by unfold Sm at hw; rw [ca5 (by omega) (by omega)]; omega
  have hGn : (-G == 0) = false := by simp; omega
  have hGp : (G == 0) = false := by simp; omega
  by_cases h1 : mw p q r < 0
  ·rw [bt (decide_eq_true h1), if_pos h1]
   simp only [hGW]
   rw [bf hGn, bf hGn, bf hGn, bf hGn]
   simp only [Int.tdiv_neg, ← Int.neg_tdiv]
   have neg : ∀ {n x : Int}, Sm n x → Sm n (-x) := fun h => ⟨by have := h.2; omega, by have := h.1; omega⟩
   rw [Ua6 ((L1 (neg v1) hgp).mono (by omega)), Ua6 ((L1 (neg v2) hgp).mono (by omega)), Ua6 ((L1 (neg v3) hgp).mono (by omega)), Ua6 ((L1 (neg hw) hgp).mono (by omega))]
   rfl
  ·rw [bf (decide_eq_false h1), if_neg h1, bf hGp, bf hGp, bf hGp, bf hGp]
   rw [Ua6 ((L1 v1 hgp).mono (by omega)), Ua6 ((L1 v2 hgp).mono (by omega)), Ua6 ((L1 v3 hgp).mono (by omega)), Ua6 ((L1 hw hgp).mono (by omega))]
   rfl
theorem td2 {p q r : Pln} (hp : Bd p) (hq : Bd q) (hr : Bd r) : Aa5 ⟨p, q, r⟩ = mpt p q r := by unfold Aa5; rw [Jc5 hp hq hr]; rfl
theorem td3 {p q r : Pln} (hp : Bd p) (hq : Bd q) (hr : Bd r) : Aa6 ⟨p, q, r⟩ = true := by unfold Aa6; rw [Jc5 hp hq hr]; rfl
end Go.Ev.Ce
namespace Go.Ev.Ce
open Go Go.Ev Go.Ev.L Go.Proofs
noncomputable def inn (l : List Pln) (x : Pt) : Bool := l.all fun p => !decide (rm p x < 0)
theorem jd1 (l : List Pln) (x : Pt) : inn l x = !l.any fun p => decide (rm p x < 0) := by unfold inn; rw [List.not_any_eq_all_not]
theorem zd8 (p : Pln) (x : Pt) : Ca7 ⟨p.n.x, p.n.y, p.n.z, p.b, x.px, x.py, x.pz, x.pw⟩ = ⟨decide (rm p x < 0)⟩ := by
 show ga0.mk (decide (ea9 p x < 0)) = _
 rw [mc1]
theorem jd2 (l : List Pln) (x : Pt) (hl : l.length ≤ 1000000000) : M2 ⟨l, x.px, x.py, x.pz, x.pw⟩ = ⟨1, if l.any (fun p => decide (rm p x < 0)) then ((l.findIdx (fun p => decide (rm p x < 0)) : Nat) : Int) else -1⟩ := by
 have h := Xa5 (step := C8 ⟨l, (l.length : Int), x.px, x.py, x.pz, x.pw⟩) (mk := fun j => (⟨(j : Int)⟩ : k8)) (c := fun p => decide (rm p x < 0)) (u := 1) (fin := 2) tP l hl
  (fun j hj => by
   simp only [C8, A2, Int.toNat_natCast, zd8, L7 hj (by omega)]
   rw [bt (Rb7 hj), bt (q7 hj)])
  (by simp only [C8, A2]; rw [bf (Mb4 (Nat.lt_irrefl _))]) 0 (Nat.zero_le _)
 rw [List.drop_zero] at h
 unfold M2 B0
 simp only [D9, F7]
 rw [show (⟨0⟩ : k8) = ⟨((0 : Nat) : Int)⟩ from rfl, h]
 split
 ·simp only [Nat.zero_add]; rfl
 ·rfl
theorem fc2 (l : List Pln) (x : Pt) (hl : l.length ≤ 1000000000) : oa5 l x = some (b (inn l x), []) := by
 unfold oa5 R4 w8
 simp only [D9, F7, jd2 l x hl, jd1]
 split
 ·rename_i h
  rw [h, show decide (((l.findIdx (fun p => decide (rm p x < 0)) : Nat) : Int) ≥ 0) = true from decide_eq_true (by omega)]; rfl
 ·rename_i h
  rw [Bool.not_eq_true] at h
  rw [h]; rfl
theorem Ub1 (l : List Pln) (x : Pt) (hl : l.length ≤ 1000000000) : O9 l x = inn l x := by unfold O9; rw [fc2 l x hl]; rfl
theorem Ub2 (l : List Pln) (x : Pt) (hl : l.length ≤ 1000000000) : P0 l x = true := by unfold P0; rw [fc2 l x hl]; rfl
def eqX (x q : Pt) : Bool := q.px == x.px && (q.py == x.py && (q.pz == x.pz && (q.pw == x.pw && true)))
theorem mc3 (x q : Pt) : eqX x q = true ↔ q = x := by
 unfold eqX
 simp only [Bool.and_true, Bool.and_eq_true, beq_iff_eq]
 exact ⟨fun ⟨h1, h2, h3, h4⟩ => by cases q; cases x; simp_all, fun h => by subst h; exact ⟨rfl, rfl, rfl, rfl⟩⟩
def Ub3 (l : List Pt) (x : Pt) : Bool := l.any (eqX x)
theorem Yc5 (l : List Pt) (x : Pt) : Ub3 l x = true ↔ x ∈ l := by
 unfold Ub3
 rw [List.any_eq_true]
 exact ⟨fun ⟨q, h, e⟩ => (mc3 x q).1 e ▸ h, fun h => ⟨x, h, (mc3 x x).2 rfl⟩⟩
def smb (n x : Int) : Bool := !decide (x < -n) && !decide (x > n)
theorem za3 (n x : Int) : smb n x = true ↔ Sm n x := by unfold smb Sm; simp only [Bool.and_eq_true, Bool.not_eq_true', decide_eq_false_iff_not]; omega
theorem Ub4 (n : Int) (l : List Int) (hn : 0 ≤ n ∧ n ≤ 1000000000) (hl : l.length ≤ 1000000000) : ka0 n l = some (b (l.all (smb n)), []) := by
 have hW : W (0 - n) = -n := by rw [ca5 (by omega) (by omega)]; omega
 have h := Dc5 (step := aa2 ⟨n, l, (l.length : Int)⟩) (mk := fun j => (⟨(j : Int)⟩ : G3)) (c := fun x => !smb n x) (u := 1) (fin := 2) tI l hl
  (fun j hj => by
   simp only [aa2, W4, Int.toNat_natCast, L7 hj (by omega), hW]
   rw [bt (Rb7 hj), bt (q7 hj)]
   unfold smb
   cases decide (gL tI l j < -n) <;> cases decide (gL tI l j > n) <;> rfl)
  (by simp only [aa2, W4]; rw [bf (Mb4 (Nat.lt_irrefl _))]) 0 (Nat.zero_le _)
 rw [List.drop_zero] at h
 unfold ka0
 simp only [D9, F7]
 rw [show (⟨0⟩ : G3) = ⟨((0 : Nat) : Int)⟩ from rfl, h]
 have e : (l.any fun x => !smb n x) = !l.all (smb n) := by rw [List.not_all_eq_any_not]
 rw [e]
 cases l.all (smb n) <;> rfl
theorem Fb1 (n : Int) (l : List Int) (hn : 0 ≤ n ∧ n ≤ 1000000000) (hl : l.length ≤ 1000000000) : da3 n l = l.all (smb n) := by unfold da3; rw [Ub4 n l hn hl]; rfl
theorem Fb2 (n : Int) (l : List Int) (hn : 0 ≤ n ∧ n ≤ 1000000000) (hl : l.length ≤ 1000000000) : da4 n l = true := by unfold da4; rw [Ub4 n l hn hl]; rfl
theorem vc8 {n : Int} (h : Sm 1000000000000000000 n) : ma6 n = (n.natAbs : Int) := by
 unfold ma6
 obtain ⟨h1, h2⟩ := h
 rw [ca5 (by omega) (by omega)]
 split <;> omega
theorem zb3 {n : Int} (h : Sm 1000000000000000000 n) : ja5 n = some (i (n.natAbs : Int), []) := by
 unfold ja5
 obtain ⟨h1, h2⟩ := h
 rw [ca5 (by omega) (by omega)]
 by_cases h : n < 0
 ·rw [bt (decide_eq_true h)]; congr 3; omega
 ·rw [bf (decide_eq_false h)]; congr 3; omega
theorem ib9 {n : Int} (h : Sm 1000000000000000000 n) : ca7 n = (n.natAbs : Int) := by unfold ca7; rw [zb3 h]; rfl
theorem jb0 {n : Int} (h : Sm 1000000000000000000 n) : ca8 n = true := by unfold ca8; rw [zb3 h]; rfl
def g3 (v : V3) : Int := (Nat.gcd (Nat.gcd v.x.natAbs v.y.natAbs) v.z.natAbs : Nat)
theorem Yc6 (g n : Nat) : eu (g : Int) (n : Int) = (Nat.gcd g n : Nat) := by rw [rd7 (by omega) (by omega)]; rfl
theorem Zb5 (P : Q9) (g n : Nat) (hn : n ≤ 1000000000000000000) : lp (O3 P) ⟨(g : Int), (n : Int)⟩ = (1, ⟨(Nat.gcd g n : Nat), 0⟩) := by
 have := Hb6 (step := O3 P) (mk := fun g n => (⟨g, n⟩ : H4)) (fun g n h => by
  have h0 : n ≠ 0 := by omega
  simp [O3, S4, Xa3, h, h0]) (fun g => by simp [O3, S4, Xa3]) (g : Int) (n : Int) (by omega) (by omega) (by omega)
 rw [this, Yc6]
theorem Fc1 (l : List Int) (hl : l.length ≤ 1000000000) (hb : ∀ x ∈ l, Sm 1000000000000000000 x) : ga3 l = some (i (l.foldl (fun g x => Nat.gcd g x.natAbs) 0 : Nat), []) := by
 have h := Mb5 (step := W5 ⟨(l.length : Int)⟩) (mk := fun j (a : Nat) => (⟨(a : Int), l, (j : Int)⟩ : E2)) (f := fun g x => Nat.gcd g x.natAbs) (fin := 2) tI l (fun _ _ => True) hl (fun j a hj _ => ⟨by
   have hm := hb _ (kc3 tI hj)
   have hne : (gL tI l j == (-9223372036854775808 : Int)) = false := by
    have := hm.1
    rw [beq_eq_false_iff_ne]; omega
   have hs : (gL tI l j).natAbs ≤ 1000000000000000000 := by obtain ⟨h1, h2⟩ := hm; omega
   simp only [W5, S5, Int.toNat_natCast, D9, F7, vc8 hm, Zb5 _ _ _ hs, L7 hj (by omega)]
   rw [bt (Rb7 hj), bt (q7 hj), bf hne]
   rfl, trivial⟩) (fun a _ => by simp only [W5, S5]; rw [bf (Mb4 (Nat.lt_irrefl _))]) 0 (Nat.zero_le _) 0 trivial
 have h := h.1
 rw [List.drop_zero] at h
 unfold ga3
 simp only [D9, F7]
 rw [show (⟨0, l, 0⟩ : E2) = ⟨((0 : Nat) : Int), l, ((0 : Nat) : Int)⟩ from rfl, h]
 rfl
def okp (p : Pln) : Bool := [p.n.x, p.n.y, p.n.z].all (smb 4608) && (g3 p.n == 1 && [p.b].all (smb 2097152))
theorem td4 (p : Pln) : Bd p ↔ [p.n.x, p.n.y, p.n.z].all (smb 4608) = true ∧ [p.b].all (smb 2097152) = true := by
 simp only [List.all_cons, List.all_nil, Bool.and_true, Bool.and_eq_true, za3, Sm]
 exact ⟨fun h => ⟨⟨⟨h.x1, h.x2⟩, ⟨h.y1, h.y2⟩, h.z1, h.z2⟩, h.b1, h.b2⟩, fun ⟨⟨⟨a, b⟩, ⟨c, d⟩, e, f⟩, g, h⟩ => ⟨a, b, c, d, e, f, g, h⟩⟩
theorem tb0 {p : Pln} (h : okp p = true) : Bd p := by
 unfold okp at h
 rw [Bool.and_eq_true, Bool.and_eq_true] at h
 exact (td4 p).2 ⟨h.1, h.2.2⟩
theorem sm3 {v : V3} (h : [v.x, v.y, v.z].all (smb 4608) = true) : Sm 4608 v.x ∧ Sm 4608 v.y ∧ Sm 4608 v.z := by
 simpa only [List.all_cons, List.all_nil, Bool.and_true, Bool.and_eq_true, za3] using h
theorem vc9 (p : Pln) : oa7 p = some (b (okp p), []) := by
 unfold oa7 okp
 have l3 : [p.n.x, p.n.y, p.n.z].length ≤ 1000000000 := by simp
 have l1 : [p.b].length ≤ 1000000000 := by simp
 simp only [Fb1 4608 _ (by omega) l3, Fb2 4608 _ (by omega) l3, Fb1 2097152 _ (by omega) l1, Fb2 2097152 _ (by omega) l1]
 cases hw : [p.n.x, p.n.y, p.n.z].all (smb 4608) with
 | false => rfl
 | true =>
  obtain ⟨h1, h2, h3⟩ := sm3 hw
  have hd := Fc1 [p.n.x, p.n.y, p.n.z] l3 (by
   intro x hx
   simp only [List.mem_cons, List.not_mem_nil, or_false] at hx
   rcases hx with rfl | rfl | rfl
   ·exact h1.mono (by omega)
   ·exact h2.mono (by omega)
   ·exact h3.mono (by omega))
  have hg : ([p.n.x, p.n.y, p.n.z].foldl (fun g x => Nat.gcd g x.natAbs) 0 : Nat) = Nat.gcd (Nat.gcd p.n.x.natAbs p.n.y.natAbs) p.n.z.natAbs := by
   simp only [List.foldl_cons, List.foldl_nil, Nat.gcd_zero_left]
  have hp : qa2 [p.n.x, p.n.y, p.n.z] = g3 p.n := by unfold qa2; rw [hd, hg]; rfl
  have hgd : qa3 [p.n.x, p.n.y, p.n.z] = true := by unfold qa3; rw [hd]; rfl
  rw [hp, hgd]
  cases g3 p.n == 1 <;> rfl
theorem Jc6 (p : Pln) : oa8 p = okp p := by unfold oa8; rw [vc9 p]; rfl
theorem Jc7 (p : Pln) : oa9 p = true := by unfold oa9; rw [vc9 p]; rfl
theorem Fb3 (P : Z8) (g n : Nat) (hn : n ≤ 1000000000000000000) : lp (V1 P) ⟨(g : Int), (n : Int)⟩ = (1, ⟨(Nat.gcd g n : Nat), 0⟩) := by
 have := Hb6 (step := V1 P) (mk := fun g n => (⟨g, n⟩ : K7)) (fun g n h => by
  have h0 : n ≠ 0 := by omega
  simp [V1, ja6, Xa3, h, h0]) (fun g => by simp [V1, ja6, Xa3]) (g : Int) (n : Int) (by omega) (by omega) (by omega)
 rw [this, Yc6]
theorem mc4 {v : V3} (h1 : Sm 1000000000000000000 v.x) (h2 : Sm 1000000000000000000 v.y) (h3 : Sm 1000000000000000000 v.z) :
  Ja6 v = if g3 v = 0 then some (.tup [.agg (tV.row ⟨0, 0, 0⟩), i 0], []) else some (.tup [.agg (tV.row ⟨W (Int.tdiv v.x (g3 v)), W (Int.tdiv v.y (g3 v)), W (Int.tdiv v.z (g3 v))⟩), i (g3 v)], []) := by
 have ne : ∀ {x : Int}, Sm 1000000000000000000 x → (x == (-9223372036854775808 : Int)) = false := fun {x} h => by
  have := h.1
  rw [beq_eq_false_iff_ne]; omega
 have bd : ∀ {x : Int}, Sm 1000000000000000000 x → x.natAbs ≤ 1000000000000000000 := fun {x} h => by obtain ⟨h1, h2⟩ := h; omega
 have l1 := Fb3 ⟨0, v.x, v.y, v.z, v.x, v.y, v.z⟩ 0 v.x.natAbs (bd h1)
 rw [Nat.gcd_zero_left] at l1
 have l2 := Fb3 ⟨1, v.x, v.y, v.z, v.x, v.y, v.z⟩ v.x.natAbs v.y.natAbs (bd h2)
 have l3 := Fb3 ⟨2, v.x, v.y, v.z, v.x, v.y, v.z⟩ (Nat.gcd v.x.natAbs v.y.natAbs) v.z.natAbs (bd h3)
 unfold Ja6
 simp only [ib9 h1, ib9 h2, ib9 h3, jb0 h1, jb0 h2, jb0 h3]
 rw [show (⟨0, (v.x.natAbs : Int)⟩ : K7) = ⟨((0 : Nat) : Int), (v.x.natAbs : Int)⟩ from rfl]
 simp only [l1, l2, l3, ne h1, ne h2, ne h3]
 rw [show ((Nat.gcd (Nat.gcd v.x.natAbs v.y.natAbs) v.z.natAbs : Nat) : Int) = g3 v from rfl]
 by_cases h : g3 v = 0
 ·rw [if_pos h, show (g3 v == 0) = true from by rw [h]; rfl]; rfl
 ·rw [if_neg h, show (g3 v == 0) = false from by rw [beq_eq_false_iff_ne]; exact h]; rfl
theorem Fc2 {v : V3} (h1 : Sm 1000000000000000000 v.x) (h2 : Sm 1000000000000000000 v.y) (h3 : Sm 1000000000000000000 v.z) : (xa4 v).2 = g3 v := by
 unfold xa4
 rw [mc4 h1 h2 h3]
 split
 ·rename_i h; rw [h]; rfl
 ·rfl
theorem td5 {v : V3} (h1 : Sm 1000000000000000000 v.x) (h2 : Sm 1000000000000000000 v.y) (h3 : Sm 1000000000000000000 v.z) (h : g3 v ≠ 0) : xa4 v = (⟨W (Int.tdiv v.x (g3 v)), W (Int.tdiv v.y (g3 v)), W (Int.tdiv v.z (g3 v))⟩, g3 v) := by
 unfold xa4
 rw [mc4 h1 h2 h3, if_neg h]
 rfl
theorem td6 {v : V3} (h1 : Sm 1000000000000000000 v.x) (h2 : Sm 1000000000000000000 v.y) (h3 : Sm 1000000000000000000 v.z) : Ya1 v = true := by
 unfold Ya1
 rw [mc4 h1 h2 h3]
 split <;> rfl
def chk (l : List Pln) : Int := if (l.length : Int) > 48 then 2 else if l.all okp then 0 else 12
theorem wc0 (l : List Pln) (hl : l.length ≤ 1000000000) : ua2 l = some (i (chk l), []) := by
 have hk1 : ∀ p, ka1 p = some (b (!okp p), []) := fun p => by unfold ka1; rw [Jc7, Jc6]; rfl
 have hp1 : ∀ p, ua0 p = !okp p := fun p => by unfold ua0; rw [hk1]; rfl
 have hg1 : ∀ p, ua1 p = true := fun p => by unfold ua1; rw [hk1]; rfl
 have h := Xa5 (step := C9 ⟨l, (l.length : Int)⟩) (mk := fun j => (⟨(j : Int)⟩ : k9)) (c := fun p => !okp p) (u := 1) (fin := 2) tP l hl
  (fun j hj => by
   simp only [C9, A3, Int.toNat_natCast, hp1, hg1, L7 hj (by omega)]
   rw [bt (Rb7 hj), bt (q7 hj), K6])
  (by simp only [C9, A3]; rw [bf (Mb4 (Nat.lt_irrefl _))]) 0 (Nat.zero_le _)
 rw [List.drop_zero] at h
 have e : (l.any fun x => !okp x) = !l.all okp := by rw [List.not_all_eq_any_not]
 unfold ua2 R5 w9 Y6 B1 chk
 simp only [D9, F7]
 rw [show (⟨0⟩ : k9) = ⟨((0 : Nat) : Int)⟩ from rfl, h, e]
 by_cases hn : (l.length : Int) > 48
 ·rw [bt (decide_eq_true hn), if_pos hn]
 ·rw [bf (decide_eq_false hn), if_neg hn]
  cases l.all okp with
  | true => rfl
  | false =>
   simp only [Bool.not_false, if_true, Nat.zero_add]
   show sl true (sl (Nat.beq 1 1) (sl (decide (((l.findIdx fun p => !okp p : Nat) : Int) ≥ 0)) _ _) _) _ = _
   rw [show decide (((l.findIdx fun p => !okp p : Nat) : Int) ≥ 0) = true from decide_eq_true (by omega)]
   rfl
theorem zb4 (l : List Pln) (hl : l.length ≤ 1000000000) : fa1 l = chk l := by unfold fa1; rw [wc0 l hl]; rfl
theorem zb5 (l : List Pln) (hl : l.length ≤ 1000000000) : T1 l = true := by unfold T1; rw [wc0 l hl]; rfl
theorem jb1 {l : List Pln} : chk l = 0 ↔ l.length ≤ 48 ∧ ∀ p ∈ l, okp p = true := by
 unfold chk
 by_cases hn : (l.length : Int) > 48
 ·rw [if_pos hn]
  exact ⟨fun h => absurd h (by decide), fun h => by omega⟩
 ·rw [if_neg hn]
  cases h : l.all okp with
  | true => exact ⟨fun _ => ⟨by omega, List.all_eq_true.1 h⟩, fun _ => rfl⟩
  | false => exact ⟨fun h => absurd h (by decide), fun h' => by rw [List.all_eq_true.2 h'.2] at h; cases h⟩
end Go.Ev.Ce
