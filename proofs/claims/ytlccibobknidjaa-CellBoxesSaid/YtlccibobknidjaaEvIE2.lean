/- Own work: a part of the proof. -/
import Derived.Test.YtlccibobknidjaaEvBd
import Derived.Test.YtlccibobknidjaaChecked
import Derived.Test.YtlccibobknidjaaEvICePf
import Derived.KernelRfl
import Derived.Test.YtlccibobknidjaaEvSp7
import Derived.Test.YtlccibobknidjaaEvOps
import Derived.Shelf.Spec.SlicesGrow
set_option linter.unusedVariables false
set_option linter.unusedSimpArgs false
set_option linter.unnecessarySimpa false
set_option linter.unusedSectionVars false
section
namespace Go.Ev.Ce
open Go Go.Ev Go.Proofs
set_option maxRecDepth 1000000
theorem mx : (Try.prog).follows .mixedOrders = true := Checked.mixed Try.checked
theorem b3 : J5 Try.prog 3 fun E => p9 E pf3 := M6 mx Try.func3 (by kernel_rfl) (m8 (by kernel_rfl))
theorem b4 : J5 Try.prog 4 fun E => p9 E pf4 := M6 mx Try.func4 (by kernel_rfl) (m8 (by kernel_rfl))
theorem b5 : J5 Try.prog 5 fun E => p9 E pf5 := M6 mx Try.func5 (by kernel_rfl) (m8 (by kernel_rfl))
theorem b6 : J5 Try.prog 6 fun E => p9 E pf6 := M6 mx Try.func6 (by kernel_rfl) (m8 (by kernel_rfl))
theorem b7 : J5 Try.prog 7 fun E => p9 E pf7 := M6 mx Try.func7 (by kernel_rfl) (m8 (by kernel_rfl))
theorem b8 : J5 Try.prog 8 fun E => p9 E pf8 := M6 mx Try.func8 (by kernel_rfl) (m8 (by kernel_rfl))
theorem b9 : J5 Try.prog 9 fun E => p9 E pf9 := M6 mx Try.func9 (by kernel_rfl) (m8 (by kernel_rfl))
theorem b10 : J5 Try.prog 10 fun E => p9 E qd2 := M6 mx Try.func10 (by kernel_rfl) (m8 (by kernel_rfl))
theorem b11 : J5 Try.prog 11 fun E => p9 E qd3 := M6 mx Try.func11 (by kernel_rfl) (m8 (by kernel_rfl))
theorem b12 : J5 Try.prog 12 fun E => p9 E qd4 := M6 mx Try.func12 (by kernel_rfl) (m8 (by kernel_rfl))
theorem b13 : J5 Try.prog 13 fun E => p9 E qd5 := M6 mx Try.func13 (by kernel_rfl) (m8 (by kernel_rfl))
theorem b14 : J5 Try.prog 14 fun E => p9 E qd6 := M6 mx Try.func14 (by kernel_rfl) (m8 (by kernel_rfl))
theorem b19 : J5 Try.prog 19 fun E => p9 E qd7 := M6 mx Try.func19 (by kernel_rfl) (m8 (by kernel_rfl))
theorem b20 : J5 Try.prog 20 fun E => p9 E qd8 := M6 mx Try.func20 (by kernel_rfl) (m8 (by kernel_rfl))
theorem b21 : J5 Try.prog 21 fun E => p9 E qd9 := M6 mx Try.func21 (by kernel_rfl) (m8 (by kernel_rfl))
theorem b22 : J5 Try.prog 22 fun E => p9 E md4 := M6 mx Try.func22 (by kernel_rfl) (m8 (by kernel_rfl))
theorem b23 : J5 Try.prog 23 fun E => p9 E md5 := M6 mx Try.func23 (by kernel_rfl) (m8 (by kernel_rfl))
theorem b24 : J5 Try.prog 24 fun E => p9 E rd0 := M6 mx Try.func24 (by kernel_rfl) (m8 (by kernel_rfl))
theorem b25 : J5 Try.prog 25 fun E => p9 E rd1 := M6 mx Try.func25 (by kernel_rfl) (m8 (by kernel_rfl))
theorem b26 : J5 Try.prog 26 fun E => p9 E rd2 := M6 mx Try.func26 (by kernel_rfl) (m8 (by kernel_rfl))
theorem b27 : J5 Try.prog 27 fun E => p9 E rd3 := M6 mx Try.func27 (by kernel_rfl) (m8 (by kernel_rfl))
theorem b28 : J5 Try.prog 28 fun E => ab6 E Wc4 := bd2 (h := h28) mx Try.func28 (by kernel_rfl) Try.func72 (by kernel_rfl) (m8 (by kernel_rfl))
theorem b29 : J5 Try.prog 29 fun E => p9 E md6 := M6 mx Try.func29 (by kernel_rfl) (m8 (by kernel_rfl))
theorem b30 : J5 Try.prog 30 fun E => p9 E rd4 := M6 mx Try.func30 (by kernel_rfl) (m8 (by kernel_rfl))
theorem b31 : J5 Try.prog 31 fun E => p9 E md7 := M6 mx Try.func31 (by kernel_rfl) (m8 (by kernel_rfl))
theorem b32 : J5 Try.prog 32 fun E => p9 E rd5 := M6 mx Try.func32 (by kernel_rfl) (m8 (by kernel_rfl))
theorem b34 : J5 Try.prog 34 fun E => p9 E rd6 := M6 mx Try.func34 (by kernel_rfl) (m8 (by kernel_rfl))
theorem b35 : J5 Try.prog 35 fun E => p9 E gd0 := M6 mx Try.func35 (by kernel_rfl) (m8 (by kernel_rfl))
theorem b36 : J5 Try.prog 36 fun E => p9 E rd7 := M6 mx Try.func36 (by kernel_rfl) (m8 (by kernel_rfl))
theorem b37 : J5 Try.prog 37 fun E => p9 E rd8 := M6 mx Try.func37 (by kernel_rfl) (m8 (by kernel_rfl))
theorem b38 : J5 Try.prog 38 fun E => p9 E rd9 := M6 mx Try.func38 (by kernel_rfl) (m8 (by kernel_rfl))
theorem b39 : J5 Try.prog 39 fun E => p9 E sd0 := M6 mx Try.func39 (by kernel_rfl) (m8 (by kernel_rfl))
theorem b40 : J5 Try.prog 40 fun E => p9 E sd1 := M6 mx Try.func40 (by kernel_rfl) (m8 (by kernel_rfl))
theorem b45 : J5 Try.prog 45 fun E => p9 E sd2 := M6 mx Try.func45 (by kernel_rfl) (m8 (by kernel_rfl))
theorem b46 : J5 Try.prog 46 fun E => p9 E sd3 := M6 mx Try.func46 (by kernel_rfl) (m8 (by kernel_rfl))
theorem b47 : J5 Try.prog 47 fun E => p9 E sd4 := M6 mx Try.func47 (by kernel_rfl) (m8 (by kernel_rfl))
theorem b48 : J5 Try.prog 48 fun E => p9 E sd5 := M6 mx Try.func48 (by kernel_rfl) (m8 (by kernel_rfl))
theorem b49 : J5 Try.prog 49 fun E => p9 E sd6 := M6 mx Try.func49 (by kernel_rfl) (m8 (by kernel_rfl))
theorem b50 : J5 Try.prog 50 fun E => p9 E sd7 := M6 mx Try.func50 (by kernel_rfl) (m8 (by kernel_rfl))
theorem b51 : J5 Try.prog 51 fun E => p9 E sd8 := M6 mx Try.func51 (by kernel_rfl) (m8 (by kernel_rfl))
theorem b52 : J5 Try.prog 52 fun E => ab6 E gd1 := bd2 (h := h52) mx Try.func52 (by kernel_rfl) Try.func71 (by kernel_rfl) (m8 (by kernel_rfl))
theorem b53 : J5 Try.prog 53 fun E => p9 E md8 := M6 mx Try.func53 (by kernel_rfl) (m8 (by kernel_rfl))
theorem b54 : J5 Try.prog 54 fun E => p9 E sd9 := M6 mx Try.func54 (by kernel_rfl) (m8 (by kernel_rfl))
theorem b55 : J5 Try.prog 55 fun E => p9 E Wc5 := M6 mx Try.func55 (by kernel_rfl) (m8 (by kernel_rfl))
theorem b58 : J5 Try.prog 58 fun E => p9 E td0 := M6 mx Try.func58 (by kernel_rfl) (m8 (by kernel_rfl))
theorem b59 : J5 Try.prog 59 fun E => p9 E td1 := M6 mx Try.func59 (by kernel_rfl) (m8 (by kernel_rfl))
theorem b60 : J5 Try.prog 60 fun E => p9 E td2 := M6 mx Try.func60 (by kernel_rfl) (m8 (by kernel_rfl))
theorem b61 : J5 Try.prog 61 fun E => p9 E gd2 := M6 mx Try.func61 (by kernel_rfl) (m8 (by kernel_rfl))
theorem b62 : J5 Try.prog 62 fun E => p9 E td3 := M6 mx Try.func62 (by kernel_rfl) (m8 (by kernel_rfl))
theorem b63 : J5 Try.prog 63 fun E => p9 E md9 := M6 mx Try.func63 (by kernel_rfl) (m8 (by kernel_rfl))
theorem b69 : J5 Try.prog 69 fun E => p9 E gd3 := M6 mx Try.func69 (by kernel_rfl) (m8 (by kernel_rfl))
theorem b70 : J5 Try.prog 70 fun E => p9 E nd0 := M6 mx Try.func70 (by kernel_rfl) (m8 (by kernel_rfl))
theorem b72 : J5 Try.prog 72 fun E => p9 E nd1 := M6 mx Try.func72 (by kernel_rfl) (m8 (by kernel_rfl))
theorem b73 : J5 Try.prog 73 fun E => p9 E td4 := M6 mx Try.func73 (by kernel_rfl) (m8 (by kernel_rfl))
theorem b74 : J5 Try.prog 74 fun E => p9 E gd4 := M6 mx Try.func74 (by kernel_rfl) (m8 (by kernel_rfl))
theorem b85 : J5 Try.prog 85 fun E => p9 E nd2 := M6 mx Try.func85 (by kernel_rfl) (m8 (by kernel_rfl))
theorem b88 : J5 Try.prog 88 fun E => p9 E td5 := M6 mx Try.func88 (by kernel_rfl) (m8 (by kernel_rfl))
end Go.Ev.Ce
end
namespace Go.Ev.L
open Go Go.Ev
noncomputable def bb0 : RT → PC → PS2
 | .s a b, .seq x y => .seq (bb0 a x) (bb0 b y)
 | .c a b, .cond g x y => .cond g (bb0 a x) (bb0 b y)
 | .b a, .block id x => .block id (bb0 a x)
 | .i a, .inner f x n c => .inner f x n (bb0 a c)
 | .u S, _ => .sum S
 | _, c => .pc c
theorem Zb7 {E : Env} {k : Nat} (rt : RT) (c : PC) : pa7 (fun x => ∀ s, N0 (x.1 s) (G2 E k x.2 s)) (gb1 rt c) → V8 E k (bb0 rt c) c := by
 induction rt generalizing c with
 | p => intro h; cases c <;> exact .pc _
 | s a b iha ihb =>
  intro h
  cases c with
  | seq x y => exact .seq (iha x (pa7.app h).1) (ihb y (pa7.app h).2)
  | _ => exact .pc _
 | c a b iha ihb =>
  intro h
  cases c with
  | cond g x y => exact .cond g (iha x (pa7.app h).1) (ihb y (pa7.app h).2)
  | _ => exact .pc _
 | b a iha =>
  intro h
  cases c with
  | block id x => exact .block id (iha x h)
  | _ => exact .pc _
 | l a iha => intro h; cases c <;> exact .pc _
 | i a iha =>
  intro h
  cases c with
  | inner f x n c => exact .inner f x n (iha c h)
  | _ => exact .pc _
 | u S =>
  intro h
  have : gb1 (.u S) c = [(S, c)] := by cases c <;> rfl
  rw [this] at h
  cases h with
  | cons h t =>
   have e : bb0 (.u S) c = .sum S := by cases c <;> rfl
   rw [e]
   exact .sum h
section
variable {π σ : Type} {E : Env} {k : Nat} {keep : List Nat} {alts : List (Al2 π σ)} {enc : π → σ → St} {step : π → σ → Stp σ} {xs : Xs π σ} {body : PS2} {c : PC}
theorem ab0.belowM (hb : V8 E k body c) (hN : E.N = rounds + 1) (w : ab0 kc7 k keep (wb3 E k body) alts step xs enc) (s : St) : N0 (Ub0 kc7 k keep alts step xs s) (G2 E k (.loopM keep c) s) := fun r hr => by
 obtain ⟨t, h1, h2⟩ := w.go hr
 rw [tc4, hN]
 exact Ra4 hb.le _ _ _ (eb1 h1 h2)
theorem ab0.belowML (hb : V8 E k body c) (hN : E.N = rounds + 1) (w : ab0 Za6 k keep (wb3 E k body) alts step xs enc) (s : St) : N0 (Ub0 Za6 k keep alts step xs s) (G2 E k (.loop keep c) s) := fun r hr => by
 obtain ⟨t, h1, h2⟩ := w.go hr
 rw [Tb8, hN]
 exact Ra4 hb.le _ _ _ (eb1 h1 h2)
end
end Go.Ev.L
namespace Go.Ev.Ab
open Go Go.Ev
@[reducible] def o (d : Nat) (x : PO) : PI := ⟨some d, none, [], x⟩
@[reducible] def s (x : PO) : PI := ⟨none, none, [], x⟩
@[reducible] def cb (b : Bool) : Arg := .c (.v (.bool b))
@[reducible] def vi (n : Int) : a7 := .v (.int .i64 n)
@[reducible] def rep {α : Type} (n : Nat) (x : α) : List α := List.replicate n x
@[reducible] def ki (n : Nat) : List CK := List.replicate n (.int .i64)
@[reducible] def mv (d n : Nat) : PI := o d (.mv (.t n))
@[reducible] def mb (d : Nat) (x : Bool) : PI := o d (.mv (cb x))
@[reducible] def fd (d k n : Nat) : PI := o d (.fld k (.t n))
@[reducible] def bx (d n : Nat) : PI := o d (.box (.t n))
@[reducible] def ex (d x k : Nat) : PI := o d (.ext (.t x) k)
@[reducible] def so (l : List PI) (x : PC) : PC := .seq (.ops l) x
@[reducible] def ts (l : List Nat) : List Arg := l.map .t
@[reducible] def cl (f : Nat) (l : List Nat) : PO := .call f (ts l)
@[reducible] def sT (k a b : Nat) : PI := s (.store k (.t a) (.t b))
@[reducible] def pa (d c x : Nat) : PI := o d (.pick (.t c) (.t x) (cb false))
@[reducible] def po (d c x : Nat) : PI := o d (.pick (.t c) (cb true) (.t x))
@[reducible] def al (d k : Nat) (n : Int) : PI := o d (.alloc (rep k (vi n)))
@[reducible] def ap (d et es n x y : Nat) : PI := o d (.append et es n (.t x) (.t y))
end Go.Ev.Ab
namespace Go.Ev.L
open Go Go.Ev
def Cps {π σ : Type} (u : ∀ {α : Type}, (σ → α) → (Nat → α) → α → π → σ → α) : Prop :=
 ∀ {α β : Type} (F : α → β) (k : σ → α) (e : Nat → α) (z : α) (p : π) (s : σ), F (u k e z p s) = u (fun x => F (k x)) (fun t => F (e t)) (F z) p s
@[reducible] noncomputable def foL {π σ : Type} (en : π → σ → St) (xs : Xs π σ) (p : π) (s : σ) : Stp σ → Option (c8 × St) := Za7 (fun s' => some (.normal, en p s')) (fun t => xOf xs p s t 1) none
structure Lo (π σ : Type) where
 E : Env
 k : Nat
 F : PFn
 at' : List Nat
 kp : List Nat
 rt : RT
 al : List (Al2 π σ)
 st : π → σ → Stp σ
 xs : Xs π σ
 en : π → σ → St
namespace Lo
variable {π σ : Type} (L : Lo π σ)
noncomputable def lc : PC := qd0 L.at' L.F.body
noncomputable def ls : St → DT (c8 × St) := Ub0 Za6 L.k L.kp L.al L.st L.xs
noncomputable def lsM : St → DT (c8 × St) := Ub0 kc7 L.k L.kp L.al L.st L.xs
noncomputable def pr : (St → DT (c8 × St)) × PC := (L.ls, .loop L.kp L.lc)
noncomputable def prM : (St → DT (c8 × St)) × PC := (L.lsM, .loopM L.kp L.lc)
def Ok : Prop := ∀ s, R4 L.k L.F.res (L.pr.1 s) (G2 L.E L.k L.pr.2 s)
def OkE : Prop := ∀ s, N0 (L.pr.1 s) (G2 L.E L.k L.pr.2 s)
def OkM : Prop := ∀ s, N0 (L.prM.1 s) (G2 L.E L.k L.prM.2 s)
def Rd (hd : St → DT St) (bd : St → DT (c8 × St)) (p : π) (s : σ) (a : St) (b : Stp σ) : Prop := (Ra5 hd bd a).run = foL L.en L.xs p s b
def H0 : Prop := ∀ p s, L.Rd (Za6 L.k L.kp) (wc4 L.E L.k L.F.res (Ob8 L.rt L.lc)) p s (L.en p s) (L.st p s)
def H1 : Prop := ∀ p s, L.Rd (Za6 L.k L.kp) (wb3 L.E L.k (bb0 L.rt L.lc)) p s (L.en p s) (L.st p s)
def H2 : Prop := ∀ p s, L.Rd (kc7 L.k L.kp) (wb3 L.E L.k (bb0 L.rt L.lc)) p s (L.en p s) (L.st p s)
def HA : Prop := pa7 (fun x => ∀ a H, (⟨Dc0 x.sh a, Dc1 x.bl H⟩ : St) = L.en (x.rd a H).1 (x.rd a H).2) L.al
variable {L}
theorem Rd.of {hd : St → DT St} {bd : St → DT (c8 × St)} {p : π} {s : σ} {a : St} (u : ∀ {α : Type}, (σ → α) → (Nat → α) → α → π → σ → α)
  (q : Cps @u) (H : (Ra5 hd bd a).run = u (fun x => foL L.en L.xs p s (.next x)) (fun t => foL L.en L.xs p s (.exit t)) (foL L.en L.xs p s .fail) p s) : L.Rd hd bd p s a (u .next .exit .fail p s) :=
 H.trans (q (foL L.en L.xs p s) Stp.next Stp.exit Stp.fail p s).symm
theorem Rd.sel {hd : St → DT St} {bd : St → DT (c8 × St)} {p : π} {s : σ} {a1 a0 : St} {b1 b0 : Stp σ} (c : Bool) (h1 : L.Rd hd bd p s a1 b1) (h0 : L.Rd hd bd p s a0 b0) : L.Rd hd bd p s (sel c a1 a0) (sel c b1 b0) := by
 cases c with
 | true => exact h1
 | false => exact h0
theorem ok (l : List ((St → DT (c8 × St)) × PC)) (hs : gb1 L.rt L.lc = l) (hl : pa7 (fun x => ∀ s, R4 L.k L.F.res (x.1 s) (G2 L.E L.k x.2 s)) l) (hN : L.E.N = rounds + 1) (ha : L.HA) (h : L.H0) : L.Ok :=
 ab0.belowC (xc2 _ _ (by rw [hs]; exact hl)) hN ⟨ha, h⟩
theorem okE (l : List ((St → DT (c8 × St)) × PC)) (hs : gb1 L.rt L.lc = l) (hl : pa7 (fun x => ∀ s, N0 (x.1 s) (G2 L.E L.k x.2 s)) l) (hN : L.E.N = rounds + 1) (ha : L.HA) (h : L.H1) : L.OkE :=
 ab0.belowML (Zb7 _ _ (by rw [hs]; exact hl)) hN ⟨ha, h⟩
theorem okM (l : List ((St → DT (c8 × St)) × PC)) (hs : gb1 L.rt L.lc = l) (hl : pa7 (fun x => ∀ s, N0 (x.1 s) (G2 L.E L.k x.2 s)) l) (hN : L.E.N = rounds + 1) (ha : L.HA) (h : L.H2) : L.OkM :=
 ab0.belowM (Zb7 _ _ (by rw [hs]; exact hl)) hN ⟨ha, h⟩
end Lo
theorem gb2 {E : Env} {F : PFn} {args : List a7} {blks : List a8} {o : Option (a7 × List a8)} (rt : RT) (l : List ((St → DT (c8 × St)) × PC)) (hs : gb1 rt F.body = l)
  (hl : pa7 (fun x => ∀ s, R4 (len blks) F.res (x.1 s) (G2 E (len blks) x.2 s)) l) (h : (ld3 E F (Ob8 rt F.body) args blks).run = o) (r : a7 × List a8) (hr : o = some r) : (p9 E F args blks).run = some r :=
 rc6 (xc2 rt _ (by rw [hs]; exact hl)) r (h.trans hr)
theorem bd3 {E : Env} {F : PFn} {args : List a7} {blks : List a8} {o : Option (a7 × List a8)} (rt : RT) (l : List ((St → DT (c8 × St)) × PC)) (hs : gb1 rt F.body = l)
  (hl : pa7 (fun x => ∀ s, N0 (x.1 s) (G2 E (len blks) x.2 s)) l) (h : (bd1 E F (bb0 rt F.body) args blks).run = o) (r : a7 × List a8) (hr : o = some r) : (ab6 E F args blks).run = some r :=
 kc6 (Zb7 rt _ (by rw [hs]; exact hl)) r (h.trans hr)
theorem I7 {A o : Option (a7 × List a8)} (h : A = o) (r : a7 × List a8) (hr : o = some r) : A = some r := h.trans hr
end Go.Ev.L
namespace Go.Ev.Ce
structure V3 where
 x : Int
 y : Int
 z : Int
structure Pln where
 n : V3
 b : Int
structure Pt where
 px : Int
 py : Int
 pz : Int
 pw : Int
def o4 (a b : V3) : V3 := ⟨a.y * b.z - a.z * b.y, a.z * b.x - a.x * b.z, a.x * b.y - a.y * b.x⟩
def dot (a b : V3) : Int := a.x * b.x + a.y * b.y + a.z * b.z
def mw (p q r : Pln) : Int := dot p.n (o4 q.n r.n)
end Go.Ev.Ce
namespace Go.Ev.Ce
open Go Go.Ev Go.Ev.L Go.Proofs
@[reducible] noncomputable def prog : Program := Try.prog
noncomputable def G : Nat → List Value := fun _ => []
noncomputable def En (l : List (Nat × Sum)) : Env := { P := prog, G, fns := fun _ => none, call := dd8 l, own := fun f j => Bool.and (va7 f [29, 33, 35, 55]) (Nat.beq j 0), N := 18446744073709551616 }
@[reducible] def u : a7 := .v (.tuple #[])
theorem nd3 {l : List (Nat × Sum)} (h : o8 prog G l) : ∀ f, j6 (En l).P (En l).G f ((En l).call f) := wc2 h
theorem bd {l : List (Nat × Sum)} {f : FuncId} {R : Env → Sum} (b : J5 prog f R) (h : o8 prog G l) : j6 prog G f (R (En l)) := b rfl (nd3 h)
noncomputable def tV : Ty V3 where
 es := 3
 row x := [i x.x, i x.y, i x.z]
 rd r := ⟨toI (hdA r), toI (hdA (tlA r)), toI (hdA (tlA (tlA r)))⟩
 ok r := na6 3 r
 cks := List.replicate 3 (.int .i64)
 d := ⟨0, 0, 0⟩
 h0 _ := rfl
 h1 _ := rfl
 h2 _ := rfl
 h3 _ h := .of (ta4 h)
 h4 _ := rfl
 h5 _ := rfl
noncomputable def r1V : R1 V3 := r1A tV 3 fun _ h => h
noncomputable def tP : Ty Pln where
 es := 4
 row x := [i x.n.x, i x.n.y, i x.n.z, i x.b]
 rd r := ⟨⟨toI (hdA r), toI (hdA (tlA r)), toI (hdA (tlA (tlA r)))⟩, toI (hdA (tlA (tlA (tlA r))))⟩
 ok r := na6 4 r
 cks := List.replicate 4 (.int .i64)
 d := ⟨⟨0, 0, 0⟩, 0⟩
 h0 _ := rfl
 h1 _ := rfl
 h2 _ := rfl
 h3 _ h := .of (ta4 h)
 h4 _ := rfl
 h5 _ := rfl
noncomputable def tX : Ty Pt where
 es := 4
 row x := [i x.px, i x.py, i x.pz, i x.pw]
 rd r := ⟨toI (hdA r), toI (hdA (tlA r)), toI (hdA (tlA (tlA r))), toI (hdA (tlA (tlA (tlA r))))⟩
 ok r := na6 4 r
 cks := List.replicate 4 (.int .i64)
 d := ⟨0, 0, 0, 0⟩
 h0 _ := rfl
 h1 _ := rfl
 h2 _ := rfl
 h3 _ h := .of (ta4 h)
 h4 _ := rfl
 h5 _ := rfl
noncomputable def r1X : R1 Pt := r1A tX 4 fun _ h => h
structure Tp where
 p : Pln
 q : Pln
 r : Pln
noncomputable def tY : Ty Tp where
 es := 12
 row x := [i x.p.n.x, i x.p.n.y, i x.p.n.z, i x.p.b, i x.q.n.x, i x.q.n.y, i x.q.n.z, i x.q.b, i x.r.n.x, i x.r.n.y, i x.r.n.z, i x.r.b]
 rd r := ⟨⟨⟨toI (hdA r), toI (hdA (tlA r)), toI (hdA (tlA (tlA r)))⟩, toI (hdA (tlA (tlA (tlA r))))⟩, ⟨⟨toI (hdA (tlA (tlA (tlA (tlA r))))), toI (hdA (tlA (tlA (tlA (tlA (tlA r)))))), toI (hdA (tlA (tlA (tlA (tlA (tlA (tlA r)))))))⟩, toI (hdA (tlA (tlA (tlA (tlA (tlA (tlA (tlA r))))))))⟩, ⟨⟨toI (hdA (tlA (tlA (tlA (tlA (tlA (tlA (tlA (tlA r))))))))), toI (hdA (tlA (tlA (tlA (tlA (tlA (tlA (tlA (tlA (tlA r)))))))))), toI (hdA (tlA (tlA (tlA (tlA (tlA (tlA (tlA (tlA (tlA (tlA r)))))))))))⟩, toI (hdA (tlA (tlA (tlA (tlA (tlA (tlA (tlA (tlA (tlA (tlA (tlA r))))))))))))⟩⟩
 ok r := na6 12 r
 cks := List.replicate 12 (.int .i64)
 d := ⟨⟨⟨0, 0, 0⟩, 0⟩, ⟨⟨0, 0, 0⟩, 0⟩, ⟨⟨0, 0, 0⟩, 0⟩⟩
 h0 _ := rfl
 h1 _ := rfl
 h2 _ := rfl
 h3 _ h := .of (ta4 h)
 h4 _ := rfl
 h5 _ := rfl
structure Q2 where
 a : V3
 b : V3
end Go.Ev.Ce
section
namespace Go.Ev.Ce
open Go Go.Ev Go.Ev.L Go.Proofs
set_option maxRecDepth 100000
structure Wc6 where
 is6 : Int
 w7 : Int
 o7 : Int
 w8 : Int
 aa0 : Int
 aa1 : Int
 aa2 : Int
structure Wc7 where
 is5 : Int
 is7 : Int
end Go.Ev.Ce
end
section
namespace Go.Ev.Ce
open Go Go.Ev Go.Ev.L Go.Proofs
set_option maxRecDepth 100000
noncomputable def Zb8 : List (Nat × Sum) := []
theorem Ob9 : o8 prog G Zb8 := trivial
noncomputable def oa4 (x : V3) (y : V3) : Int := (W ((W ((W (x.x * y.x)) + (W (x.y * y.y)))) + (W (x.z * y.z))))
noncomputable def bb1 : Sum := va9 (Ha4 tV) (Ha4 tV) (fun x y => .ret ((one r1I).enc (oa4 x y), []))
theorem qb4 : j6 prog G 47 bb1 := Ra6 (bd b47 Ob9) fun x y => I7 (by kernel_rfl)
noncomputable def Zb9 : List (Nat × Sum) := []
theorem Pb0 : o8 prog G Zb9 := trivial
noncomputable def G0 (x : V3) (y : V3) : V3 := (⟨(W (x.x + y.x)), (W (x.y + y.y)), (W (x.z + y.z))⟩ : V3)
noncomputable def bb2 : Sum := va9 (Ha4 tV) (Ha4 tV) (fun x y => .ret ((one r1V).enc (G0 x y), []))
theorem qb5 : j6 prog G 6 bb2 := Ra6 (bd b6 Pb0) fun x y => I7 (by kernel_rfl)
noncomputable def Pb1 : List (Nat × Sum) := []
theorem Kb1 : o8 prog G Pb1 := trivial
noncomputable def J8 (x : V3) (y : Int) : V3 := (⟨(W (x.x * y)), (W (x.y * y)), (W (x.z * y))⟩ : V3)
noncomputable def Sa2 : Sum := va9 (Ha4 tV) cI (fun x y => .ret ((one r1V).enc (J8 x y), []))
theorem ib4 : j6 prog G 24 Sa2 := Ra6 (bd b24 Kb1) fun x y => I7 (by kernel_rfl)
noncomputable def Kb2 : List (Nat × Sum) := []
theorem Ab8 : o8 prog G Kb2 := trivial
noncomputable def J6 (x : V3) (y : V3) : V3 := (⟨(W ((W (x.y * y.z)) - (W (x.z * y.y)))), (W ((W (x.z * y.x)) - (W (x.x * y.z)))), (W ((W (x.x * y.y)) - (W (x.y * y.x))))⟩ : V3)
noncomputable def ib5 : Sum := va9 (Ha4 tV) (Ha4 tV) (fun x y => .ret ((one r1V).enc (J6 x y), []))
theorem Kb3 : j6 prog G 73 ib5 := Ra6 (bd b73 Ab8) fun x y => I7 (by kernel_rfl)
noncomputable def ac0 : List (Nat × Sum) := [(47, bb1)]
theorem Pb2 : o8 prog G ac0 := ⟨qb4, trivial⟩
noncomputable def ca8 (x : Pln) (y : Pt) : Int := let t1 := (oa4 x.n (⟨y.px, y.py, y.pz⟩ : V3)); (W ((W (x.b * y.pw)) - t1))
noncomputable def Ka8 : Sum := va9 (Ha4 tP) (Ha4 tX) (fun x y => .ret ((one r1I).enc (ca8 x y), []))
theorem Sa3 : j6 prog G 32 Ka8 := Ra6 (bd b32 Pb2) fun x y => I7 (by kernel_rfl)
noncomputable def bb3 : List (Nat × Sum) := []
theorem ac4 : o8 prog G bb3 := trivial
structure ja4 where
 ka6 : List Int
 is7 : Int
 is8 : Int
structure X5 where
 is3 : Int
 is5 : Int
noncomputable def Pb3 (p : ja4) (s : X5) : St := ⟨(ra 3 ((i s.is3) :: (.unk :: ((i s.is5) :: ((eL tI p.ka6) :: ((i p.is7) :: ((i p.is8) :: (ra 14 [])))))))), []⟩
noncomputable def ha1 {α : Type} (k : X5 → α) (e : Nat → α) (z : α) (p : ja4) (s : X5) : α := (sl (s.is5 != 0) (sl (s.is5 == 0) z (k ⟨s.is5, (Int.tmod s.is3 s.is5)⟩)) (e 1))
noncomputable def la6 (p : ja4) (s : X5) : Stp X5 := ha1 .next .exit .fail p s
noncomputable def Sa4 : Lo ja4 X5 := ⟨En bb3, 0, gd4, [1, 1, 0, 1, 4, 4, 1, 1, 0, 4, 1, 4, 4], [3, 5, 6, 7, 8], .p, [⟨(ru2 3 ((.s (.o (.int .i64))) :: ((.s (.o .unk)) :: ((.s (.o (.int .i64))) :: ((.s (.c 1 (nL tI))) :: ((.s (.o (.int .i64))) :: ((.s (.o (.int .i64))) :: (ru2 14 [])))))))), [], fun a H => (⟨(rL tI (slT a 6)), (toI (slT a 7)), (toI (slT a 8))⟩, ⟨(toI (slT a 3)), (toI (slT a 5))⟩)⟩], la6, [(some 2, fun p s => ⟨(ra 3 ((i s.is3) :: (.unk :: ((i s.is5) :: ((eL tI p.ka6) :: ((i p.is7) :: ((i p.is8) :: (ra 3 ((i s.is5) :: ((b (s.is5 != 0)) :: (ra 9 []))))))))))), []⟩)], Pb3⟩
theorem Pb4 : Sa4.Ok := Lo.ok [] (by kernel_rfl) .nil rfl (.cons (fun a H => by kernel_rfl) .nil) fun p s => (.of @ha1 (fun F _ _ _ _ _ => by unfold ha1; (repeat' apply B7 (f := F)) <;> rfl) (by kernel_rfl))
structure pa8 where
 is7 : Int
structure X6 where
 is3 : Int
 ka6 : List Int
 is8 : Int
noncomputable def Pb5 (p : pa8) (s : X6) : St := ⟨(ra 3 ((i s.is3) :: (.unk :: (.unk :: ((eL tI s.ka6) :: ((i p.is7) :: ((i s.is8) :: (ra 14 [])))))))), []⟩
noncomputable def ha2 {α : Type} (k : X6 → α) (e : Nat → α) (z : α) (p : pa8) (s : X6) : α := let t1 := (lp (la6 (⟨(rt tI s.ka6), p.is7, s.is8⟩ : ja4)) (⟨s.is3, (gL tI s.ka6 s.is8.toNat)⟩ : X5)); (sl (decide (s.is8 < p.is7)) (sl (inB s.is8 (List.length s.ka6)) (sl ((cnE tI s.ka6) && true) (sl (Nat.beq t1.1 1) (k ⟨t1.2.is3, (rt tI s.ka6), (W (s.is8 + 1))⟩) z) z) z) (e 1))
noncomputable def fa1 (p : pa8) (s : X6) : Stp X6 := ha2 .next .exit .fail p s
noncomputable def Sa5 : Lo pa8 X6 := ⟨En bb3, 0, gd4, [1, 1, 0, 1, 4, 4], [3, 6, 7, 8], (.s .p (.s .p (.s (.b (.s .p (.b (.u Sa4.ls)))) .p))), [⟨(ru2 3 ((.s (.o (.int .i64))) :: ((.s (.o .unk)) :: ((.s (.o .unk)) :: ((.s (.c 1 (nL tI))) :: ((.s (.o (.int .i64))) :: ((.s (.o (.int .i64))) :: (ru2 14 [])))))))), [], fun a H => (⟨(toI (slT a 7))⟩, ⟨(toI (slT a 3)), (rL tI (slT a 6)), (toI (slT a 8))⟩)⟩], fa1, [(some 0, fun p s => ⟨(ra 3 ((i s.is3) :: (.unk :: (.unk :: ((eL tI s.ka6) :: ((i p.is7) :: ((i s.is8) :: ((b (decide (s.is8 < p.is7))) :: (ra 13 []))))))))), []⟩)], Pb5⟩
theorem Pb6 : Sa5.Ok := Lo.ok [Sa4.pr] (by kernel_rfl) (.cons Pb4 .nil) rfl (.cons (fun a H => by kernel_rfl) .nil) fun p s => (.of @ha2 (fun F _ _ _ _ _ => by unfold ha2; (repeat' apply B7 (f := F)) <;> rfl) (by kernel_rfl))
noncomputable def Fa4 (x : List Int) : Option (a7 × List a8) := let t1 := (lp (fa1 (⟨(↑(List.length x) : Int)⟩ : pa8)) (⟨0, (rt tI x), 0⟩ : X6)); (sl ((cnE tI x) && true) (sl (Nat.beq t1.1 1) (some ((i (if (W (0 - t1.2.is3)) > t1.2.is3 then (W (0 - t1.2.is3)) else t1.2.is3)), [])) none) none)
noncomputable def Sa6 (x : List Int) : Int := la0 (one r1I) (Fa4 x)
noncomputable def Sa7 (x : List Int) : Bool := okO (one r1I) (Fa4 x)
noncomputable def Kb4 : Sum := va8 (Ea9 tI) (fun x => .guard (Sa7 x) (.ret ((one r1I).enc (Sa6 x), [])))
theorem kc8 : j6 prog G 74 Kb4 := gb0 (bd b74 ac4) (one r1I) (o := Fa4) fun x => gb2 (.s .p (.s .p (.s (.s .p (.b (.u Sa5.ls))) .p))) [Sa5.pr] (by kernel_rfl) (.cons Pb6 .nil) (by kernel_rfl)
noncomputable def ac5 : List (Nat × Sum) := [(73, ib5), (47, bb1), (24, Sa2), (6, bb2), (74, Kb4)]
theorem Pb7 : o8 prog G ac5 := ⟨Kb3, qb4, ib4, qb5, kc8, trivial⟩
noncomputable def wa1 (x : Tp) : Option (a7 × List a8) := let t1 := (J6 x.q.n x.r.n); let t3 := (J8 t1 x.p.b); let t4 := (G0 (⟨0, 0, 0⟩ : V3) t3); let t5 := (J6 x.r.n x.p.n); let t7 := (J8 t5 x.q.b); let t8 := (G0 t4 t7); let t9 := (J6 x.p.n x.q.n); let t10 := (oa4 x.r.n t9); let t11 := (J8 t9 x.r.b); let t12 := (G0 t8 t11); let t13 := (Sa6 [t12.x, t12.y, t12.z, t10]); (sl (t10 == 0) (some ((.tup [(.agg [(i 0), (i 0), (i 0), (i 0)]), (b false)]), [])) (sl (Sa7 [t12.x, t12.y, t12.z, t10]) (sl (decide (t10 < 0)) (sl ((W (0 - t13)) == 0) none (sl ((W (0 - t13)) == 0) none (sl ((W (0 - t13)) == 0) none (sl ((W (0 - t13)) == 0) none (some ((.tup [(.agg [(i (W (Int.tdiv t12.x (W (0 - t13))))), (i (W (Int.tdiv t12.y (W (0 - t13))))), (i (W (Int.tdiv t12.z (W (0 - t13))))), (i (W (Int.tdiv t10 (W (0 - t13)))))]), (b true)]), [])))))) (sl (t13 == 0) none (sl (t13 == 0) none (sl (t13 == 0) none (sl (t13 == 0) none (some ((.tup [(.agg [(i (W (Int.tdiv t12.x t13))), (i (W (Int.tdiv t12.y t13))), (i (W (Int.tdiv t12.z t13))), (i (W (Int.tdiv t10 t13)))]), (b true)]), []))))))) none))
noncomputable def wa2 (x : Tp) : Pt × Bool := la0 (two r1X r1B) (wa1 x)
noncomputable def wa3 (x : Tp) : Bool := okO (two r1X r1B) (wa1 x)
noncomputable def zb8 : Sum := va8 (Ha4 tY) (fun x => .guard (wa3 x) (.ret ((two r1X r1B).enc (wa2 x), [])))
theorem ac6 : j6 prog G 54 zb8 := gb0 (bd b54 Pb7) (two r1X r1B) (o := wa1) fun x => I7 (by kernel_rfl)
structure ma8 where
 Ba3 : Int
 Ba4 : Int
 Ba5 : Int
 Ha3 : Int
 w7 : Int
 o7 : Int
 w8 : Int
 c7 : Int
noncomputable def wb4 : List (Nat × Sum) := [(32, Ka8)]
theorem qb6 : o8 prog G wb4 := ⟨Sa3, trivial⟩
structure da5 where
 bs0 : Bool
noncomputable def da6 {α : Type} (kk : da5 → α) (x : ma8) : α := let t1 := (ca8 (⟨(⟨x.Ba3, x.Ba4, x.Ba5⟩ : V3), x.Ha3⟩ : Pln) (⟨x.w7, x.o7, x.w8, x.c7⟩ : Pt)); (kk ⟨(decide (t1 < 0))⟩)
noncomputable def ya7 (x : ma8) : da5 := da6 (fun r => r) x
noncomputable def ta5 (x : ma8) (r : da5) : DT (a7 × List a8) := .ret ((b r.bs0), [⟨0, 4, [[(i x.w7), (i x.o7), (i x.w8), (i x.c7)]], true, false, 0⟩])
theorem Ab9 {α β : Type} (F : α → β) (kk : da5 → α) (x : ma8) : F (da6 kk x) = da6 (fun r => F (kk r)) x := by unfold da6; (repeat' apply B7 (f := F)) <;> rfl
noncomputable def Va0 : Sum := La8 ⟨[(.agg [(.o (.int .i64)), (.o (.int .i64)), (.o (.int .i64)), (.o (.int .i64))]), (.s (.o (.ptr 0 0 0 0)))], [⟨0, 4, true, (some [[(.o (.int .i64)), (.o (.int .i64)), (.o (.int .i64)), (.o (.int .i64))]])⟩], fun a H => (⟨(toI (slT (cellsOf (slT a 0)) 0)), (toI (slT (cellsOf (slT a 0)) 1)), (toI (slT (cellsOf (slT a 0)) 2)), (toI (slT (cellsOf (slT a 0)) 3)), (toI (slT (rwT (elT H 0) 0) 0)), (toI (slT (rwT (elT H 0) 0) 1)), (toI (slT (rwT (elT H 0) 0) 2)), (toI (slT (rwT (elT H 0) 0) 3))⟩, ())⟩ (fun x => ta5 x (ya7 x))
theorem wb5 : j6 prog G 62 Va0 := P4 (enc := fun x => ⟨[(.agg [(i x.Ba3), (i x.Ba4), (i x.Ba5), (i x.Ha3)]), (.ptr 0 0 0 0)], [⟨0, 4, [[(i x.w7), (i x.o7), (i x.w8), (i x.c7)]], true, false, 0⟩]⟩) (fun a H => by kernel_rfl) (bd b62 qb6) fun x => I7 (Eq.trans (b := da6 (fun r => (ta5 x r).run) x) (by kernel_rfl) (Ab9 (fun r => (ta5 x r).run) (fun r => r) x).symm)
structure K3 where
 u9 : List Pln
 w7 : Int
 o7 : Int
 w8 : Int
 c7 : Int
noncomputable def ha3 : List (Nat × Sum) := [(62, Va0)]
theorem Ca2 : o8 prog G ha3 := ⟨wb5, trivial⟩
structure D2 where
 u9 : List Pln
 is7 : Int
 w7 : Int
 o7 : Int
 w8 : Int
 c7 : Int
structure k9 where
 is8 : Int
noncomputable def ya8 (p : D2) (s : k9) : St := ⟨((eL tP p.u9) :: ((.fn 62 [(.ptr 0 0 0 0)]) :: (ra 5 ((i p.is7) :: ((i s.is8) :: (ra 10 [])))))), [⟨0, 4, [[(i p.w7), (i p.o7), (i p.w8), (i p.c7)]], true, false, 0⟩]⟩
noncomputable def z8 {α : Type} (k : k9 → α) (e : Nat → α) (z : α) (p : D2) (s : k9) : α := let t1 := (ya7 ⟨(gL tP p.u9 s.is8.toNat).n.x, (gL tP p.u9 s.is8.toNat).n.y, (gL tP p.u9 s.is8.toNat).n.z, (gL tP p.u9 s.is8.toNat).b, p.w7, p.o7, p.w8, p.c7⟩); (sl (decide (s.is8 < p.is7)) (sl (inB s.is8 (List.length p.u9)) (sl t1.bs0 (e 1) (k ⟨(W (s.is8 + 1))⟩)) z) (e 2))
noncomputable def B9 (p : D2) (s : k9) : Stp k9 := z8 .next .exit .fail p s
noncomputable def R5 : Lo D2 k9 := ⟨En ha3, 1, Wc5, [1, 0, 1, 4, 4], [0, 1, 7, 8], .p, [⟨((.s (.c 4 (nL tP))) :: ((.fn 62 [(.o (.ptr 0 0 0 0))]) :: (ru2 5 ((.s (.o (.int .i64))) :: ((.s (.o (.int .i64))) :: (ru2 10 [])))))), [⟨0, 4, true, (some [[(.o (.int .i64)), (.o (.int .i64)), (.o (.int .i64)), (.o (.int .i64))]])⟩], fun a H => (⟨(rL tP (slT a 0)), (toI (slT a 7)), (toI (slT (rwT (elT H 0) 0) 0)), (toI (slT (rwT (elT H 0) 0) 1)), (toI (slT (rwT (elT H 0) 0) 2)), (toI (slT (rwT (elT H 0) 0) 3))⟩, ⟨(toI (slT a 8))⟩)⟩], B9, [(none, fun p s => ⟨[(i s.is8)], [⟨0, 4, [[(i p.w7), (i p.o7), (i p.w8), (i p.c7)]], true, false, 0⟩]⟩), (some 0, fun p s => ⟨((eL tP p.u9) :: ((.fn 62 [(.ptr 0 0 0 0)]) :: (ra 5 ((i p.is7) :: ((i s.is8) :: ((b (decide (s.is8 < p.is7))) :: (ra 9 []))))))), [⟨0, 4, [[(i p.w7), (i p.o7), (i p.w8), (i p.c7)]], true, false, 0⟩]⟩)], ya8⟩
theorem ya9 : R5.Ok := Lo.ok [] (by kernel_rfl) .nil rfl (.cons (fun a H => by kernel_rfl) .nil) fun p s => (.of @z8 (fun F _ _ _ _ _ => by unfold z8; (repeat' apply B7 (f := F)) <;> rfl) (by kernel_rfl))
structure K4 where
 alt : Nat
 is0 : Int
noncomputable def A5 {α : Type} (kk : K4 → α) (x : K3) : α := let t1 := (lp (B9 (⟨(rt tP x.u9), (↑(List.length x.u9) : Int), x.w7, x.o7, x.w8, x.c7⟩ : D2)) (⟨0⟩ : k9)); (sl ((cnE tP x.u9) && true) (sl (Nat.beq t1.1 1) (kk ⟨1, t1.2.is8⟩) (sl (Nat.beq t1.1 2) (kk ⟨1, (-1)⟩) (kk ⟨0, 0⟩))) (kk ⟨0, 0⟩))
noncomputable def K5 (x : K3) : K4 := A5 (fun r => r) x
noncomputable def T8 (x : K3) (r : K4) : DT (a7 × List a8) := (.ite (Nat.beq r.alt 1) (.ret ((i r.is0), [⟨0, 4, [[(i x.w7), (i x.o7), (i x.w8), (i x.c7)]], true, false, 0⟩])) .fail)
theorem Ha5 {α β : Type} (F : α → β) (kk : K4 → α) (x : K3) : F (A5 kk x) = A5 (fun r => F (kk r)) x := by unfold A5; (repeat' apply B7 (f := F)) <;> rfl
noncomputable def ja8 : Sum := La8 ⟨[(.s (.c 4 (nL tP))), (.fn 62 [(.o (.ptr 0 0 0 0))])], [⟨0, 4, true, (some [[(.o (.int .i64)), (.o (.int .i64)), (.o (.int .i64)), (.o (.int .i64))]])⟩], fun a H => (⟨(rL tP (slT a 0)), (toI (slT (rwT (elT H 0) 0) 0)), (toI (slT (rwT (elT H 0) 0) 1)), (toI (slT (rwT (elT H 0) 0) 2)), (toI (slT (rwT (elT H 0) 0) 3))⟩, ())⟩ (fun x => T8 x (K5 x))
theorem Fa5 : j6 prog G 55 ja8 := P4 (enc := fun x => ⟨[(eL tP x.u9), (.fn 62 [(.ptr 0 0 0 0)])], [⟨0, 4, [[(i x.w7), (i x.o7), (i x.w8), (i x.c7)]], true, false, 0⟩]⟩) (fun a H => by kernel_rfl) (bd b55 Ca2) fun x => gb2 (.s .p (.s (.s .p (.b (.u R5.ls))) .p)) [R5.pr] (by kernel_rfl) (.cons ya9 .nil) (Eq.trans (b := A5 (fun r => (T8 x r).run) x) (by kernel_rfl) (Ha5 (fun r => (T8 x r).run) (fun r => r) x).symm)
structure G8 where
 u9 : List Pln
 w7 : Int
 o7 : Int
 w8 : Int
 c7 : Int
noncomputable def wa4 : List (Nat × Sum) := [(55, ja8)]
theorem ta6 : o8 prog G wa4 := ⟨Fa5, trivial⟩
structure G9 where
 alt : Nat
 bs0 : Bool
noncomputable def v4 {α : Type} (kk : G9 → α) (x : G8) : α := let t1 := (K5 ⟨(rt tP x.u9), x.w7, x.o7, x.w8, x.c7⟩); (sl ((cnE tP x.u9) && true) (sl (Nat.beq t1.alt 1) (kk ⟨1, (decide (t1.is0 ≥ 0))⟩) (kk ⟨0, false⟩)) (kk ⟨0, false⟩))
noncomputable def P8 (x : G8) : G9 := v4 (fun r => r) x
noncomputable def O3 (x : G8) (r : G9) : DT (a7 × List a8) := (.ite (Nat.beq r.alt 1) (.ret ((b r.bs0), [⟨0, 4, [[(i x.w7), (i x.o7), (i x.w8), (i x.c7)]], true, false, 0⟩])) .fail)
theorem za0 {α β : Type} (F : α → β) (kk : G9 → α) (x : G8) : F (v4 kk x) = v4 (fun r => F (kk r)) x := by unfold v4; (repeat' apply B7 (f := F)) <;> rfl
noncomputable def da7 : Sum := La8 ⟨[(.s (.c 4 (nL tP))), (.fn 62 [(.o (.ptr 0 0 0 0))])], [⟨0, 4, true, (some [[(.o (.int .i64)), (.o (.int .i64)), (.o (.int .i64)), (.o (.int .i64))]])⟩], fun a H => (⟨(rL tP (slT a 0)), (toI (slT (rwT (elT H 0) 0) 0)), (toI (slT (rwT (elT H 0) 0) 1)), (toI (slT (rwT (elT H 0) 0) 2)), (toI (slT (rwT (elT H 0) 0) 3))⟩, ())⟩ (fun x => O3 x (P8 x))
theorem wa5 : j6 prog G 48 da7 := P4 (enc := fun x => ⟨[(eL tP x.u9), (.fn 62 [(.ptr 0 0 0 0)])], [⟨0, 4, [[(i x.w7), (i x.o7), (i x.w8), (i x.c7)]], true, false, 0⟩]⟩) (fun a H => by kernel_rfl) (bd b48 ta6) fun x => I7 (Eq.trans (b := v4 (fun r => (O3 x r).run) x) (by kernel_rfl) (za0 (fun r => (O3 x r).run) (fun r => r) x).symm)
noncomputable def Kb5 : List (Nat × Sum) := [(48, da7)]
theorem Bb0 : o8 prog G Kb5 := ⟨wa5, trivial⟩
noncomputable def la7 (x : List Pln) (y : Pt) : Option (a7 × List a8) := let t1 := (P8 ⟨(rt tP x), y.px, y.py, y.pz, y.pw⟩); (sl ((cnE tP x) && true) (sl (Nat.beq t1.alt 1) (some ((b (!t1.bs0)), [])) none) none)
noncomputable def N2 (x : List Pln) (y : Pt) : Bool := la0 (one r1B) (la7 x y)
noncomputable def N3 (x : List Pln) (y : Pt) : Bool := okO (one r1B) (la7 x y)
noncomputable def va0 : Sum := va9 (Ea9 tP) (Ha4 tX) (fun x y => .guard (N3 x y) (.ret ((one r1B).enc (N2 x y), [])))
theorem Fa6 : j6 prog G 39 va0 := Ib7 (bd b39 Bb0) (one r1B) (o := la7) fun x y => I7 (by kernel_rfl)
noncomputable def la8 : List (Nat × Sum) := []
theorem Ha6 : o8 prog G la8 := trivial
@[reducible] noncomputable def oa5 : Sum := p9 (En la8) nd1
theorem La9 : j6 prog G 72 oa5 := bd b72 Ha6
noncomputable def pa9 : List (Nat × Sum) := [(72, oa5)]
theorem Oa6 : o8 prog G pa9 := ⟨La9, trivial⟩
@[reducible] noncomputable def sa4 : Sum := p9 (En pa9) md8
theorem Sa8 : j6 prog G 53 sa4 := bd b53 Oa6
noncomputable def R6 : List (Nat × Sum) := [(54, zb8), (39, va0), (53, sa4)]
theorem Oa7 : o8 prog G R6 := ⟨ac6, Fa6, Sa8, trivial⟩
structure g7 where
 is3 : Int
 J4 : List Pln
 sa3 : Int
 M8 : Int
 tb5 : Nat
 Da4 : Nat → List a7
 V7 : Int
 ca5 : Int
 vc0 : Nat
 Ba1 : Nat → List a7
 dc7 : Int
 c9 : List Pln
 N9 : Int
 O0 : Int
 O1 : Int
 O2 : Int
 aa0 : Int
 aa1 : Int
 aa2 : Int
 Da5 : Int
 ca6 : List Pln
structure g8 where
 ph : Nat
 ea6 : Int
 va5 : Nat
 eh6 : List (List a7)
 eh7 : List (List a7)
noncomputable def Ha7 (p : g7) (s : g8) : St := ⟨(.unk :: ((.ptr 0 0 0 0) :: (.unk :: ((i p.is3) :: ((.ptr 1 0 0 0) :: (.unk :: ((.ptr 2 0 0 0) :: (.unk :: (.unk :: ((eL tP p.J4) :: ((i p.sa3) :: ((i p.M8) :: (ra 7 ((.tree 4 p.tb5 p.Da4) :: ((i p.V7) :: ((i p.ca5) :: (ra 9 ((.tree 4 p.vc0 p.Ba1) :: ((i p.dc7) :: ((i s.ea6) :: (ra 13 ((i 0) :: (.unk :: ((.ptr 3 0 0 0) :: ((.v (.slice none 0 0)) :: ((.ptr 4 0 0 0) :: ((.ptr 5 0 0 0) :: (ra 31 [])))))))))))))))))))))))))))), [⟨0, 1, [[(eL tP p.c9)]], true, false, 0⟩, ⟨0, 4, [[(i p.N9), (i p.O0), (i p.O1), (i p.O2)]], true, false, 0⟩, ⟨0, 4, [[(i p.aa0), (i p.aa1), (i p.aa2), (i p.Da5)]], true, false, 0⟩, ⟨0, 1, [[(eL tP p.ca6)]], true, false, 0⟩, ⟨0, 0, [[(.v (.slice none 0 0))]], true, false, 0⟩, ⟨0, 0, [[(.ptr 6 0 0 0)]], true, false, 0⟩, ⟨84, 0, [], true, false, 0⟩]⟩
noncomputable def Ha8 (p : g7) (s : g8) : St := ⟨(.unk :: ((.ptr 0 0 0 0) :: (.unk :: ((i p.is3) :: ((.ptr 1 0 0 0) :: (.unk :: ((.ptr 2 0 0 0) :: (.unk :: (.unk :: ((eL tP p.J4) :: ((i p.sa3) :: ((i p.M8) :: (ra 7 ((.tree 4 p.tb5 p.Da4) :: ((i p.V7) :: ((i p.ca5) :: (ra 9 ((.tree 4 p.vc0 p.Ba1) :: ((i p.dc7) :: ((i s.ea6) :: (ra 13 ((i 0) :: (.unk :: ((.ptr 3 0 0 0) :: ((.v (.slice none 0 0)) :: ((.ptr 4 0 0 0) :: ((.ptr 5 0 0 0) :: (ra 31 [])))))))))))))))))))))))))))), [⟨0, 1, [[(eL tP p.c9)]], true, false, 0⟩, ⟨0, 4, [[(i p.N9), (i p.O0), (i p.O1), (i p.O2)]], true, false, 0⟩, ⟨0, 4, [[(i p.aa0), (i p.aa1), (i p.aa2), (i p.Da5)]], true, false, 0⟩, ⟨0, 1, [[(eL tP p.ca6)]], true, false, 0⟩, ⟨0, 0, [[(.sl 6 0 s.va5 0)]], true, false, 0⟩, ⟨0, 0, [[(.ptr 7 0 0 0)]], true, false, 0⟩, ⟨53, 4, s.eh6, true, false, 0⟩, ⟨84, 0, s.eh7, true, false, 0⟩]⟩
noncomputable def Ma0 (p : g7) (s : g8) : St := (sel (Nat.beq s.ph 1) (Ha8 p s) (Ha7 p s))
noncomputable def s4 {α : Type} (k : g8 → α) (e : Nat → α) (z : α) (p : g7) (s : g8) : α := let t1 := (wa2 (⟨(⟨(⟨p.N9, p.O0, p.O1⟩ : V3), p.O2⟩ : Pln), (⟨(⟨p.aa0, p.aa1, p.aa2⟩ : V3), p.Da5⟩ : Pln), (⟨(⟨(toI (hdA (p.Ba1 s.ea6.toNat))), (toI (hdA (tlA (p.Ba1 s.ea6.toNat)))), (toI (hdA (tlA (tlA (p.Ba1 s.ea6.toNat)))))⟩ : V3), (toI (hdA (tlA (tlA (tlA (p.Ba1 s.ea6.toNat))))))⟩ : Pln)⟩ : Tp)); let t2 := (N2 (rt tP p.ca6) t1.1); (sl (decide (s.ea6 < p.dc7)) (sl (inB s.ea6 p.vc0) (sl ((Nat.ble 4 (len (p.Ba1 s.ea6.toNat))) && (Ka0 [(CK.int .i64), (CK.int .i64), (CK.int .i64), (CK.int .i64)] (p.Ba1 s.ea6.toNat))) (sl (wa3 (⟨(⟨(⟨p.N9, p.O0, p.O1⟩ : V3), p.O2⟩ : Pln), (⟨(⟨p.aa0, p.aa1, p.aa2⟩ : V3), p.Da5⟩ : Pln), (⟨(⟨(toI (hdA (p.Ba1 s.ea6.toNat))), (toI (hdA (tlA (p.Ba1 s.ea6.toNat)))), (toI (hdA (tlA (tlA (p.Ba1 s.ea6.toNat)))))⟩ : V3), (toI (hdA (tlA (tlA (tlA (p.Ba1 s.ea6.toNat))))))⟩ : Pln)⟩ : Tp)) (sl t1.2 (sl (!(nb2 4 [(0, (.int .i64)), (1, (.int .i64)), (2, (.int .i64)), (3, (.int .i64))] [(i t1.1.px), (i t1.1.py), (i t1.1.pz), (i t1.1.pw)] [])) (sl (okE tP p.ca6) (sl (N3 (rt tP p.ca6) t1.1) (sl t2 (k ⟨1, (W (s.ea6 + 1)), 1, [[(i t1.1.px), (i t1.1.py), (i t1.1.pz), (i t1.1.pw)]], (La1 [(0, (.int .i64)), (1, (.int .i64)), (2, (.int .i64)), (3, (.int .i64))] [(i t1.1.px), (i t1.1.py), (i t1.1.pz), (i t1.1.pw)] [(i t1.1.px), (i t1.1.py), (i t1.1.pz), (i t1.1.pw), (b true)] [])⟩) (k ⟨0, (W (s.ea6 + 1)), 0, [], []⟩)) z) z) (k ⟨0, (W (s.ea6 + 1)), 0, [], []⟩)) (k ⟨0, (W (s.ea6 + 1)), 0, [], []⟩)) z) z) z) (e 1))
noncomputable def s5 {α : Type} (k : g8 → α) (e : Nat → α) (z : α) (p : g7) (s : g8) : α := let t1 := (wa2 (⟨(⟨(⟨p.N9, p.O0, p.O1⟩ : V3), p.O2⟩ : Pln), (⟨(⟨p.aa0, p.aa1, p.aa2⟩ : V3), p.Da5⟩ : Pln), (⟨(⟨(toI (hdA (p.Ba1 s.ea6.toNat))), (toI (hdA (tlA (p.Ba1 s.ea6.toNat)))), (toI (hdA (tlA (tlA (p.Ba1 s.ea6.toNat)))))⟩ : V3), (toI (hdA (tlA (tlA (tlA (p.Ba1 s.ea6.toNat))))))⟩ : Pln)⟩ : Tp)); let t2 := (N2 (rt tP p.ca6) t1.1); (sl (decide (s.ea6 < p.dc7)) (sl (inB s.ea6 p.vc0) (sl ((Nat.ble 4 (len (p.Ba1 s.ea6.toNat))) && (Ka0 [(CK.int .i64), (CK.int .i64), (CK.int .i64), (CK.int .i64)] (p.Ba1 s.ea6.toNat))) (sl (wa3 (⟨(⟨(⟨p.N9, p.O0, p.O1⟩ : V3), p.O2⟩ : Pln), (⟨(⟨p.aa0, p.aa1, p.aa2⟩ : V3), p.Da5⟩ : Pln), (⟨(⟨(toI (hdA (p.Ba1 s.ea6.toNat))), (toI (hdA (tlA (p.Ba1 s.ea6.toNat)))), (toI (hdA (tlA (tlA (p.Ba1 s.ea6.toNat)))))⟩ : V3), (toI (hdA (tlA (tlA (tlA (p.Ba1 s.ea6.toNat))))))⟩ : Pln)⟩ : Tp)) (sl t1.2 (sl (!(nb2 4 [(0, (.int .i64)), (1, (.int .i64)), (2, (.int .i64)), (3, (.int .i64))] [(i t1.1.px), (i t1.1.py), (i t1.1.pz), (i t1.1.pw)] s.eh7)) (sl (okE tP p.ca6) (sl (N3 (rt tP p.ca6) t1.1) (sl t2 (sl (Nat.beq s.va5 (len s.eh6) && Nat.ble ((s.va5 + 1) * 32) room) (k ⟨1, (W (s.ea6 + 1)), (s.va5 + 1), (app s.eh6 [[(i t1.1.px), (i t1.1.py), (i t1.1.pz), (i t1.1.pw)]]), (La1 [(0, (.int .i64)), (1, (.int .i64)), (2, (.int .i64)), (3, (.int .i64))] [(i t1.1.px), (i t1.1.py), (i t1.1.pz), (i t1.1.pw)] [(i t1.1.px), (i t1.1.py), (i t1.1.pz), (i t1.1.pw), (b true)] s.eh7)⟩) z) (k ⟨1, (W (s.ea6 + 1)), s.va5, s.eh6, s.eh7⟩)) z) z) (k ⟨1, (W (s.ea6 + 1)), s.va5, s.eh6, s.eh7⟩)) (k ⟨1, (W (s.ea6 + 1)), s.va5, s.eh6, s.eh7⟩)) z) z) z) (e 2))
noncomputable def o9 (p : g7) (s : g8) : Stp g8 := (sel (Nat.beq s.ph 1) (s5 .next .exit .fail p s) (s4 .next .exit .fail p s))
noncomputable def aa9 : Lo g7 g8 := ⟨En R6, 0, Wc4, [1, 1, 1, 0, 1, 4, 4, 1, 4, 4, 1, 1, 0, 4, 1, 1, 4, 4, 1, 1, 0, 4, 1, 1, 4, 4], [1, 3, 4, 6, 9, 10, 11, 19, 20, 21, 31, 32, 33, 47, 49, 50, 51, 52], .p, [⟨((.s (.o .unk)) :: ((.s (.o (.ptr 0 0 0 0))) :: ((.s (.o .unk)) :: ((.s (.o (.int .i64))) :: ((.s (.o (.ptr 1 0 0 0))) :: ((.s (.o .unk)) :: ((.s (.o (.ptr 2 0 0 0))) :: ((.s (.o .unk)) :: ((.s (.o .unk)) :: ((.s (.c 4 (nL tP))) :: ((.s (.o (.int .i64))) :: ((.s (.o (.int .i64))) :: (ru2 7 ((.s (.o (.tree 4))) :: ((.s (.o (.int .i64))) :: ((.s (.o (.int .i64))) :: (ru2 9 ((.s (.o (.tree 4))) :: ((.s (.o (.int .i64))) :: ((.s (.o (.int .i64))) :: (ru2 13 ((.s (.o (.lit .i64 0))) :: ((.s (.o .unk)) :: ((.s (.o (.ptr 3 0 0 0))) :: ((.s (.o .nil)) :: ((.s (.o (.ptr 4 0 0 0))) :: ((.s (.o (.ptr 5 0 0 0))) :: (ru2 31 [])))))))))))))))))))))))))))), [⟨0, 1, true, (some [[(.c 4 (nL tP))]])⟩, ⟨0, 4, true, (some [[(.o (.int .i64)), (.o (.int .i64)), (.o (.int .i64)), (.o (.int .i64))]])⟩, ⟨0, 4, true, (some [[(.o (.int .i64)), (.o (.int .i64)), (.o (.int .i64)), (.o (.int .i64))]])⟩, ⟨0, 1, true, (some [[(.c 4 (nL tP))]])⟩, ⟨0, 0, true, (some [[(.o .nil)]])⟩, ⟨0, 0, true, (some [[(.o (.ptr 6 0 0 0))]])⟩, ⟨84, 0, true, (some [])⟩], fun a H => (⟨(toI (slT a 3)), (rL tP (slT a 9)), (toI (slT a 10)), (toI (slT a 11)), (toN (slT a 19)), (toG (slT a 19)), (toI (slT a 20)), (toI (slT a 21)), (toN (slT a 31)), (toG (slT a 31)), (toI (slT a 32)), (rL tP (slT (rwT (elT H 0) 0) 0)), (toI (slT (rwT (elT H 1) 0) 0)), (toI (slT (rwT (elT H 1) 0) 1)), (toI (slT (rwT (elT H 1) 0) 2)), (toI (slT (rwT (elT H 1) 0) 3)), (toI (slT (rwT (elT H 2) 0) 0)), (toI (slT (rwT (elT H 2) 0) 1)), (toI (slT (rwT (elT H 2) 0) 2)), (toI (slT (rwT (elT H 2) 0) 3)), (rL tP (slT (rwT (elT H 3) 0) 0))⟩, ⟨0, (toI (slT a 33)), 0, [], []⟩)⟩, ⟨((.s (.o .unk)) :: ((.s (.o (.ptr 0 0 0 0))) :: ((.s (.o .unk)) :: ((.s (.o (.int .i64))) :: ((.s (.o (.ptr 1 0 0 0))) :: ((.s (.o .unk)) :: ((.s (.o (.ptr 2 0 0 0))) :: ((.s (.o .unk)) :: ((.s (.o .unk)) :: ((.s (.c 4 (nL tP))) :: ((.s (.o (.int .i64))) :: ((.s (.o (.int .i64))) :: (ru2 7 ((.s (.o (.tree 4))) :: ((.s (.o (.int .i64))) :: ((.s (.o (.int .i64))) :: (ru2 9 ((.s (.o (.tree 4))) :: ((.s (.o (.int .i64))) :: ((.s (.o (.int .i64))) :: (ru2 13 ((.s (.o (.lit .i64 0))) :: ((.s (.o .unk)) :: ((.s (.o (.ptr 3 0 0 0))) :: ((.s (.o .nil)) :: ((.s (.o (.ptr 4 0 0 0))) :: ((.s (.o (.ptr 5 0 0 0))) :: (ru2 31 [])))))))))))))))))))))))))))), [⟨0, 1, true, (some [[(.c 4 (nL tP))]])⟩, ⟨0, 4, true, (some [[(.o (.int .i64)), (.o (.int .i64)), (.o (.int .i64)), (.o (.int .i64))]])⟩, ⟨0, 4, true, (some [[(.o (.int .i64)), (.o (.int .i64)), (.o (.int .i64)), (.o (.int .i64))]])⟩, ⟨0, 1, true, (some [[(.c 4 (nL tP))]])⟩, ⟨0, 0, true, (some [[(.o (.sl 6 0 (some 0) none))]])⟩, ⟨0, 0, true, (some [[(.o (.ptr 7 0 0 0))]])⟩, ⟨53, 4, true, none⟩, ⟨84, 0, true, none⟩], fun a H => (⟨(toI (slT a 3)), (rL tP (slT a 9)), (toI (slT a 10)), (toI (slT a 11)), (toN (slT a 19)), (toG (slT a 19)), (toI (slT a 20)), (toI (slT a 21)), (toN (slT a 31)), (toG (slT a 31)), (toI (slT a 32)), (rL tP (slT (rwT (elT H 0) 0) 0)), (toI (slT (rwT (elT H 1) 0) 0)), (toI (slT (rwT (elT H 1) 0) 1)), (toI (slT (rwT (elT H 1) 0) 2)), (toI (slT (rwT (elT H 1) 0) 3)), (toI (slT (rwT (elT H 2) 0) 0)), (toI (slT (rwT (elT H 2) 0) 1)), (toI (slT (rwT (elT H 2) 0) 2)), (toI (slT (rwT (elT H 2) 0) 3)), (rL tP (slT (rwT (elT H 3) 0) 0))⟩, ⟨1, (toI (slT a 33)), (slN (slT (rwT (elT H 4) 0) 0)), (elT H 6), (elT H 7)⟩)⟩], o9, [(some 4, fun p s => ⟨(.unk :: ((.ptr 0 0 0 0) :: (.unk :: ((i p.is3) :: ((.ptr 1 0 0 0) :: (.unk :: ((.ptr 2 0 0 0) :: (.unk :: (.unk :: ((eL tP p.J4) :: ((i p.sa3) :: ((i p.M8) :: (ra 7 ((.tree 4 p.tb5 p.Da4) :: ((i p.V7) :: ((i p.ca5) :: (ra 9 ((.tree 4 p.vc0 p.Ba1) :: ((i p.dc7) :: ((i s.ea6) :: ((b (decide (s.ea6 < p.dc7))) :: (ra 12 ((i 0) :: (.unk :: ((.ptr 3 0 0 0) :: ((.v (.slice none 0 0)) :: ((.ptr 4 0 0 0) :: ((.ptr 5 0 0 0) :: (ra 31 []))))))))))))))))))))))))))))), [⟨0, 1, [[(eL tP p.c9)]], true, false, 0⟩, ⟨0, 4, [[(i p.N9), (i p.O0), (i p.O1), (i p.O2)]], true, false, 0⟩, ⟨0, 4, [[(i p.aa0), (i p.aa1), (i p.aa2), (i p.Da5)]], true, false, 0⟩, ⟨0, 1, [[(eL tP p.ca6)]], true, false, 0⟩, ⟨0, 0, [[(.v (.slice none 0 0))]], true, false, 0⟩, ⟨0, 0, [[(.ptr 6 0 0 0)]], true, false, 0⟩, ⟨84, 0, [], true, false, 0⟩]⟩), (some 4, fun p s => ⟨(.unk :: ((.ptr 0 0 0 0) :: (.unk :: ((i p.is3) :: ((.ptr 1 0 0 0) :: (.unk :: ((.ptr 2 0 0 0) :: (.unk :: (.unk :: ((eL tP p.J4) :: ((i p.sa3) :: ((i p.M8) :: (ra 7 ((.tree 4 p.tb5 p.Da4) :: ((i p.V7) :: ((i p.ca5) :: (ra 9 ((.tree 4 p.vc0 p.Ba1) :: ((i p.dc7) :: ((i s.ea6) :: ((b (decide (s.ea6 < p.dc7))) :: (ra 12 ((i 0) :: (.unk :: ((.ptr 3 0 0 0) :: ((.v (.slice none 0 0)) :: ((.ptr 4 0 0 0) :: ((.ptr 5 0 0 0) :: (ra 31 []))))))))))))))))))))))))))))), [⟨0, 1, [[(eL tP p.c9)]], true, false, 0⟩, ⟨0, 4, [[(i p.N9), (i p.O0), (i p.O1), (i p.O2)]], true, false, 0⟩, ⟨0, 4, [[(i p.aa0), (i p.aa1), (i p.aa2), (i p.Da5)]], true, false, 0⟩, ⟨0, 1, [[(eL tP p.ca6)]], true, false, 0⟩, ⟨0, 0, [[(.sl 6 0 s.va5 0)]], true, false, 0⟩, ⟨0, 0, [[(.ptr 7 0 0 0)]], true, false, 0⟩, ⟨53, 4, s.eh6, true, false, 0⟩, ⟨84, 0, s.eh7, true, false, 0⟩]⟩)], Ma0⟩
theorem Ma1 : aa9.OkM := Lo.okM [] (by kernel_rfl) .nil rfl (.cons (fun a H => by kernel_rfl) (.cons (fun a H => by kernel_rfl) .nil)) fun p s => (.sel (Nat.beq s.ph 1) (.of @s5 (fun F _ _ _ _ _ => by unfold s5; (repeat' apply B7 (f := F)) <;> rfl) (by kernel_rfl)) (.of @s4 (fun F _ _ _ _ _ => by unfold s4; (repeat' apply B7 (f := F)) <;> rfl) (by kernel_rfl)))
structure g9 where
 is3 : Int
 sa3 : Int
 M8 : Int
 tb5 : Nat
 Da4 : Nat → List a7
 V7 : Int
 N9 : Int
 O0 : Int
 O1 : Int
 O2 : Int
structure i4 where
 ph : Nat
 J4 : List Pln
 ca5 : Int
 c9 : List Pln
 K1 : List Pln
 tb6 : Nat
 eh5 : List (List a7)
 eh6 : List (List a7)
noncomputable def Ha9 (p : g9) (s : i4) : St := ⟨(.unk :: ((.ptr 0 0 0 0) :: (.unk :: ((i p.is3) :: ((.ptr 1 0 0 0) :: (ra 4 ((eL tP s.J4) :: ((i p.sa3) :: ((i p.M8) :: (ra 7 ((.tree 4 p.tb5 p.Da4) :: ((i p.V7) :: ((i s.ca5) :: (ra 25 ((i 0) :: (.unk :: ((.ptr 2 0 0 0) :: ((.v (.slice none 0 0)) :: ((.ptr 3 0 0 0) :: ((.ptr 4 0 0 0) :: (ra 31 []))))))))))))))))))))), [⟨0, 1, [[(eL tP s.c9)]], true, false, 0⟩, ⟨0, 4, [[(i p.N9), (i p.O0), (i p.O1), (i p.O2)]], true, false, 0⟩, ⟨0, 1, [[(eL tP s.K1)]], true, false, 0⟩, ⟨0, 0, [[(.v (.slice none 0 0))]], true, false, 0⟩, ⟨0, 0, [[(.ptr 5 0 0 0)]], true, false, 0⟩, ⟨84, 0, [], true, false, 0⟩]⟩
noncomputable def Ia0 (p : g9) (s : i4) : St := ⟨(.unk :: ((.ptr 0 0 0 0) :: (.unk :: ((i p.is3) :: ((.ptr 1 0 0 0) :: (ra 4 ((eL tP s.J4) :: ((i p.sa3) :: ((i p.M8) :: (ra 7 ((.tree 4 p.tb5 p.Da4) :: ((i p.V7) :: ((i s.ca5) :: (ra 25 ((i 0) :: (.unk :: ((.ptr 2 0 0 0) :: ((.v (.slice none 0 0)) :: ((.ptr 3 0 0 0) :: ((.ptr 4 0 0 0) :: (ra 31 []))))))))))))))))))))), [⟨0, 1, [[(eL tP s.c9)]], true, false, 0⟩, ⟨0, 4, [[(i p.N9), (i p.O0), (i p.O1), (i p.O2)]], true, false, 0⟩, ⟨0, 1, [[(eL tP s.K1)]], true, false, 0⟩, ⟨0, 0, [[(.sl 5 0 s.tb6 0)]], true, false, 0⟩, ⟨0, 0, [[(.ptr 6 0 0 0)]], true, false, 0⟩, ⟨53, 4, s.eh5, true, false, 0⟩, ⟨84, 0, s.eh6, true, false, 0⟩]⟩
noncomputable def Ma2 (p : g9) (s : i4) : St := (sel (Nat.beq s.ph 1) (Ia0 p s) (Ha9 p s))
noncomputable def s6 {α : Type} (k : i4 → α) (e : Nat → α) (z : α) (p : g9) (s : i4) : α := let t1 := (lp (o9 (⟨p.is3, (rt tP s.J4), p.sa3, p.M8, p.tb5, p.Da4, p.V7, s.ca5, ((List.length s.c9) - (W ((W (p.is3 + s.ca5)) + 2)).toNat), (fun k => (fun k => (tP).row (gL tP s.c9 k)) ((W ((W (p.is3 + s.ca5)) + 2)).toNat + k)), (↑((List.length s.c9) - (W ((W (p.is3 + s.ca5)) + 2)).toNat) : Int), (rt tP s.c9), p.N9, p.O0, p.O1, p.O2, (toI (hdA (p.Da4 s.ca5.toNat))), (toI (hdA (tlA (p.Da4 s.ca5.toNat)))), (toI (hdA (tlA (tlA (p.Da4 s.ca5.toNat))))), (toI (hdA (tlA (tlA (tlA (p.Da4 s.ca5.toNat)))))), (rt tP s.K1)⟩ : g7)) (⟨0, 0, 0, [], []⟩ : g8)); (sl (decide (s.ca5 < p.V7)) (sl (inB s.ca5 p.tb5) (sl ((Nat.ble 4 (len (p.Da4 s.ca5.toNat))) && (Ka0 [(CK.int .i64), (CK.int .i64), (CK.int .i64), (CK.int .i64)] (p.Da4 s.ca5.toNat))) (sl (inB (W ((W (p.is3 + s.ca5)) + 2)) ((List.length s.c9) + 1)) (sl ((cnE tP s.J4) && ((cnE tP s.c9) && ((cnE tP s.K1) && true))) (sl (Nat.beq t1.1 1) (k ⟨0, (rt tP s.J4), (W (s.ca5 + 1)), (rt tP s.c9), (rt tP s.K1), 0, [], []⟩) (sl (Nat.beq t1.1 2) (k ⟨1, (rt tP s.J4), (W (s.ca5 + 1)), (rt tP s.c9), (rt tP s.K1), t1.2.va5, t1.2.eh6, t1.2.eh7⟩) z)) z) z) z) z) (e 1))
noncomputable def s7 {α : Type} (k : i4 → α) (e : Nat → α) (z : α) (p : g9) (s : i4) : α := let t1 := (lp (o9 (⟨p.is3, (rt tP s.J4), p.sa3, p.M8, p.tb5, p.Da4, p.V7, s.ca5, ((List.length s.c9) - (W ((W (p.is3 + s.ca5)) + 2)).toNat), (fun k => (fun k => (tP).row (gL tP s.c9 k)) ((W ((W (p.is3 + s.ca5)) + 2)).toNat + k)), (↑((List.length s.c9) - (W ((W (p.is3 + s.ca5)) + 2)).toNat) : Int), (rt tP s.c9), p.N9, p.O0, p.O1, p.O2, (toI (hdA (p.Da4 s.ca5.toNat))), (toI (hdA (tlA (p.Da4 s.ca5.toNat)))), (toI (hdA (tlA (tlA (p.Da4 s.ca5.toNat))))), (toI (hdA (tlA (tlA (tlA (p.Da4 s.ca5.toNat)))))), (rt tP s.K1)⟩ : g7)) (⟨1, 0, s.tb6, s.eh5, s.eh6⟩ : g8)); (sl (decide (s.ca5 < p.V7)) (sl (inB s.ca5 p.tb5) (sl ((Nat.ble 4 (len (p.Da4 s.ca5.toNat))) && (Ka0 [(CK.int .i64), (CK.int .i64), (CK.int .i64), (CK.int .i64)] (p.Da4 s.ca5.toNat))) (sl (inB (W ((W (p.is3 + s.ca5)) + 2)) ((List.length s.c9) + 1)) (sl ((cnE tP s.J4) && ((cnE tP s.c9) && ((cnE tP s.K1) && true))) (sl (Nat.beq t1.1 1) (k ⟨0, (rt tP s.J4), (W (s.ca5 + 1)), (rt tP s.c9), (rt tP s.K1), 0, [], []⟩) (sl (Nat.beq t1.1 2) (k ⟨1, (rt tP s.J4), (W (s.ca5 + 1)), (rt tP s.c9), (rt tP s.K1), t1.2.va5, t1.2.eh6, t1.2.eh7⟩) z)) z) z) z) z) (e 2))
noncomputable def p6 (p : g9) (s : i4) : Stp i4 := (sel (Nat.beq s.ph 1) (s7 .next .exit .fail p s) (s6 .next .exit .fail p s))
noncomputable def ba0 : Lo g9 i4 := ⟨En R6, 0, Wc4, [1, 1, 1, 0, 1, 4, 4, 1, 4, 4, 1, 1, 0, 4, 1, 1, 4, 4], [1, 3, 4, 9, 10, 11, 19, 20, 21, 47, 49, 50, 51, 52], (.s .p (.s .p (.s (.b (.s .p (.s .p (.b (.u aa9.lsM))))) .p))), [⟨((.s (.o .unk)) :: ((.s (.o (.ptr 0 0 0 0))) :: ((.s (.o .unk)) :: ((.s (.o (.int .i64))) :: ((.s (.o (.ptr 1 0 0 0))) :: (ru2 4 ((.s (.c 4 (nL tP))) :: ((.s (.o (.int .i64))) :: ((.s (.o (.int .i64))) :: (ru2 7 ((.s (.o (.tree 4))) :: ((.s (.o (.int .i64))) :: ((.s (.o (.int .i64))) :: (ru2 25 ((.s (.o (.lit .i64 0))) :: ((.s (.o .unk)) :: ((.s (.o (.ptr 2 0 0 0))) :: ((.s (.o .nil)) :: ((.s (.o (.ptr 3 0 0 0))) :: ((.s (.o (.ptr 4 0 0 0))) :: (ru2 31 []))))))))))))))))))))), [⟨0, 1, true, (some [[(.c 4 (nL tP))]])⟩, ⟨0, 4, true, (some [[(.o (.int .i64)), (.o (.int .i64)), (.o (.int .i64)), (.o (.int .i64))]])⟩, ⟨0, 1, true, (some [[(.c 4 (nL tP))]])⟩, ⟨0, 0, true, (some [[(.o .nil)]])⟩, ⟨0, 0, true, (some [[(.o (.ptr 5 0 0 0))]])⟩, ⟨84, 0, true, (some [])⟩], fun a H => (⟨(toI (slT a 3)), (toI (slT a 10)), (toI (slT a 11)), (toN (slT a 19)), (toG (slT a 19)), (toI (slT a 20)), (toI (slT (rwT (elT H 1) 0) 0)), (toI (slT (rwT (elT H 1) 0) 1)), (toI (slT (rwT (elT H 1) 0) 2)), (toI (slT (rwT (elT H 1) 0) 3))⟩, ⟨0, (rL tP (slT a 9)), (toI (slT a 21)), (rL tP (slT (rwT (elT H 0) 0) 0)), (rL tP (slT (rwT (elT H 2) 0) 0)), 0, [], []⟩)⟩, ⟨((.s (.o .unk)) :: ((.s (.o (.ptr 0 0 0 0))) :: ((.s (.o .unk)) :: ((.s (.o (.int .i64))) :: ((.s (.o (.ptr 1 0 0 0))) :: (ru2 4 ((.s (.c 4 (nL tP))) :: ((.s (.o (.int .i64))) :: ((.s (.o (.int .i64))) :: (ru2 7 ((.s (.o (.tree 4))) :: ((.s (.o (.int .i64))) :: ((.s (.o (.int .i64))) :: (ru2 25 ((.s (.o (.lit .i64 0))) :: ((.s (.o .unk)) :: ((.s (.o (.ptr 2 0 0 0))) :: ((.s (.o .nil)) :: ((.s (.o (.ptr 3 0 0 0))) :: ((.s (.o (.ptr 4 0 0 0))) :: (ru2 31 []))))))))))))))))))))), [⟨0, 1, true, (some [[(.c 4 (nL tP))]])⟩, ⟨0, 4, true, (some [[(.o (.int .i64)), (.o (.int .i64)), (.o (.int .i64)), (.o (.int .i64))]])⟩, ⟨0, 1, true, (some [[(.c 4 (nL tP))]])⟩, ⟨0, 0, true, (some [[(.o (.sl 5 0 (some 0) none))]])⟩, ⟨0, 0, true, (some [[(.o (.ptr 6 0 0 0))]])⟩, ⟨53, 4, true, none⟩, ⟨84, 0, true, none⟩], fun a H => (⟨(toI (slT a 3)), (toI (slT a 10)), (toI (slT a 11)), (toN (slT a 19)), (toG (slT a 19)), (toI (slT a 20)), (toI (slT (rwT (elT H 1) 0) 0)), (toI (slT (rwT (elT H 1) 0) 1)), (toI (slT (rwT (elT H 1) 0) 2)), (toI (slT (rwT (elT H 1) 0) 3))⟩, ⟨1, (rL tP (slT a 9)), (toI (slT a 21)), (rL tP (slT (rwT (elT H 0) 0) 0)), (rL tP (slT (rwT (elT H 2) 0) 0)), (slN (slT (rwT (elT H 3) 0) 0)), (elT H 5), (elT H 6)⟩)⟩], p6, [(some 2, fun p s => ⟨(.unk :: ((.ptr 0 0 0 0) :: (.unk :: ((i p.is3) :: ((.ptr 1 0 0 0) :: (ra 4 ((eL tP s.J4) :: ((i p.sa3) :: ((i p.M8) :: (ra 7 ((.tree 4 p.tb5 p.Da4) :: ((i p.V7) :: ((i s.ca5) :: ((b (decide (s.ca5 < p.V7))) :: (ra 24 ((i 0) :: (.unk :: ((.ptr 2 0 0 0) :: ((.v (.slice none 0 0)) :: ((.ptr 3 0 0 0) :: ((.ptr 4 0 0 0) :: (ra 31 [])))))))))))))))))))))), [⟨0, 1, [[(eL tP s.c9)]], true, false, 0⟩, ⟨0, 4, [[(i p.N9), (i p.O0), (i p.O1), (i p.O2)]], true, false, 0⟩, ⟨0, 1, [[(eL tP s.K1)]], true, false, 0⟩, ⟨0, 0, [[(.v (.slice none 0 0))]], true, false, 0⟩, ⟨0, 0, [[(.ptr 5 0 0 0)]], true, false, 0⟩, ⟨84, 0, [], true, false, 0⟩]⟩), (some 2, fun p s => ⟨(.unk :: ((.ptr 0 0 0 0) :: (.unk :: ((i p.is3) :: ((.ptr 1 0 0 0) :: (ra 4 ((eL tP s.J4) :: ((i p.sa3) :: ((i p.M8) :: (ra 7 ((.tree 4 p.tb5 p.Da4) :: ((i p.V7) :: ((i s.ca5) :: ((b (decide (s.ca5 < p.V7))) :: (ra 24 ((i 0) :: (.unk :: ((.ptr 2 0 0 0) :: ((.v (.slice none 0 0)) :: ((.ptr 3 0 0 0) :: ((.ptr 4 0 0 0) :: (ra 31 [])))))))))))))))))))))), [⟨0, 1, [[(eL tP s.c9)]], true, false, 0⟩, ⟨0, 4, [[(i p.N9), (i p.O0), (i p.O1), (i p.O2)]], true, false, 0⟩, ⟨0, 1, [[(eL tP s.K1)]], true, false, 0⟩, ⟨0, 0, [[(.sl 5 0 s.tb6 0)]], true, false, 0⟩, ⟨0, 0, [[(.ptr 6 0 0 0)]], true, false, 0⟩, ⟨53, 4, s.eh5, true, false, 0⟩, ⟨84, 0, s.eh6, true, false, 0⟩]⟩)], Ma2⟩
theorem Ma3 : ba0.OkM := Lo.okM [aa9.prM] (by kernel_rfl) (.cons Ma1 .nil) rfl (.cons (fun a H => by kernel_rfl) (.cons (fun a H => by kernel_rfl) .nil)) fun p s => (.sel (Nat.beq s.ph 1) (.of @s7 (fun F _ _ _ _ _ => by unfold s7; (repeat' apply B7 (f := F)) <;> rfl) (by kernel_rfl)) (.of @s6 (fun F _ _ _ _ _ => by unfold s6; (repeat' apply B7 (f := F)) <;> rfl) (by kernel_rfl)))
structure m9 where
 sa3 : Int
structure j4 where
 ph : Nat
 J4 : List Pln
 M8 : Int
 c9 : List Pln
 oa8 : List Pln
 Eb6 : Nat
 eh4 : List (List a7)
 eh5 : List (List a7)
noncomputable def Ia1 (p : m9) (s : j4) : St := ⟨(.unk :: ((.ptr 0 0 0 0) :: (ra 7 ((eL tP s.J4) :: ((i p.sa3) :: ((i s.M8) :: (ra 35 ((i 0) :: (.unk :: ((.ptr 1 0 0 0) :: ((.v (.slice none 0 0)) :: ((.ptr 2 0 0 0) :: ((.ptr 3 0 0 0) :: (ra 31 [])))))))))))))), [⟨0, 1, [[(eL tP s.c9)]], true, false, 0⟩, ⟨0, 1, [[(eL tP s.oa8)]], true, false, 0⟩, ⟨0, 0, [[(.v (.slice none 0 0))]], true, false, 0⟩, ⟨0, 0, [[(.ptr 4 0 0 0)]], true, false, 0⟩, ⟨84, 0, [], true, false, 0⟩]⟩
noncomputable def Ia2 (p : m9) (s : j4) : St := ⟨(.unk :: ((.ptr 0 0 0 0) :: (ra 7 ((eL tP s.J4) :: ((i p.sa3) :: ((i s.M8) :: (ra 35 ((i 0) :: (.unk :: ((.ptr 1 0 0 0) :: ((.v (.slice none 0 0)) :: ((.ptr 2 0 0 0) :: ((.ptr 3 0 0 0) :: (ra 31 [])))))))))))))), [⟨0, 1, [[(eL tP s.c9)]], true, false, 0⟩, ⟨0, 1, [[(eL tP s.oa8)]], true, false, 0⟩, ⟨0, 0, [[(.sl 4 0 s.Eb6 0)]], true, false, 0⟩, ⟨0, 0, [[(.ptr 5 0 0 0)]], true, false, 0⟩, ⟨53, 4, s.eh4, true, false, 0⟩, ⟨84, 0, s.eh5, true, false, 0⟩]⟩
noncomputable def Ma4 (p : m9) (s : j4) : St := (sel (Nat.beq s.ph 1) (Ia2 p s) (Ia1 p s))
noncomputable def s8 {α : Type} (k : j4 → α) (e : Nat → α) (z : α) (p : m9) (s : j4) : α := let t1 := (lp (p6 (⟨s.M8, p.sa3, s.M8, ((List.length s.c9) - (W (s.M8 + 1)).toNat), (fun k => (fun k => (tP).row (gL tP s.c9 k)) ((W (s.M8 + 1)).toNat + k)), (↑((List.length s.c9) - (W (s.M8 + 1)).toNat) : Int), (gL tP s.J4 s.M8.toNat).n.x, (gL tP s.J4 s.M8.toNat).n.y, (gL tP s.J4 s.M8.toNat).n.z, (gL tP s.J4 s.M8.toNat).b⟩ : g9)) (⟨0, (rt tP s.J4), 0, (rt tP s.c9), (rt tP s.oa8), 0, [], []⟩ : i4)); (sl (decide (s.M8 < p.sa3)) (sl (inB s.M8 (List.length s.J4)) (sl (inB (W (s.M8 + 1)) ((List.length s.c9) + 1)) (sl ((cnE tP s.J4) && ((cnE tP s.c9) && ((cnE tP s.oa8) && true))) (sl (Nat.beq t1.1 1) (k ⟨0, t1.2.J4, (W (s.M8 + 1)), t1.2.c9, t1.2.K1, 0, [], []⟩) (sl (Nat.beq t1.1 2) (k ⟨1, t1.2.J4, (W (s.M8 + 1)), t1.2.c9, t1.2.K1, t1.2.tb6, t1.2.eh5, t1.2.eh6⟩) z)) z) z) z) (e 1))
noncomputable def s9 {α : Type} (k : j4 → α) (e : Nat → α) (z : α) (p : m9) (s : j4) : α := let t1 := (lp (p6 (⟨s.M8, p.sa3, s.M8, ((List.length s.c9) - (W (s.M8 + 1)).toNat), (fun k => (fun k => (tP).row (gL tP s.c9 k)) ((W (s.M8 + 1)).toNat + k)), (↑((List.length s.c9) - (W (s.M8 + 1)).toNat) : Int), (gL tP s.J4 s.M8.toNat).n.x, (gL tP s.J4 s.M8.toNat).n.y, (gL tP s.J4 s.M8.toNat).n.z, (gL tP s.J4 s.M8.toNat).b⟩ : g9)) (⟨1, (rt tP s.J4), 0, (rt tP s.c9), (rt tP s.oa8), s.Eb6, s.eh4, s.eh5⟩ : i4)); (sl (decide (s.M8 < p.sa3)) (sl (inB s.M8 (List.length s.J4)) (sl (inB (W (s.M8 + 1)) ((List.length s.c9) + 1)) (sl ((cnE tP s.J4) && ((cnE tP s.c9) && ((cnE tP s.oa8) && true))) (sl (Nat.beq t1.1 1) (k ⟨0, t1.2.J4, (W (s.M8 + 1)), t1.2.c9, t1.2.K1, 0, [], []⟩) (sl (Nat.beq t1.1 2) (k ⟨1, t1.2.J4, (W (s.M8 + 1)), t1.2.c9, t1.2.K1, t1.2.tb6, t1.2.eh5, t1.2.eh6⟩) z)) z) z) z) (e 2))
noncomputable def p7 (p : m9) (s : j4) : Stp j4 := (sel (Nat.beq s.ph 1) (s9 .next .exit .fail p s) (s8 .next .exit .fail p s))
noncomputable def ba1 : Lo m9 j4 := ⟨En R6, 0, Wc4, [1, 1, 1, 0, 1, 4, 4, 1, 4, 4], [1, 9, 10, 11, 47, 49, 50, 51, 52], (.s .p (.s .p (.s (.b (.s .p (.s .p (.b (.u ba0.lsM))))) .p))), [⟨((.s (.o .unk)) :: ((.s (.o (.ptr 0 0 0 0))) :: (ru2 7 ((.s (.c 4 (nL tP))) :: ((.s (.o (.int .i64))) :: ((.s (.o (.int .i64))) :: (ru2 35 ((.s (.o (.lit .i64 0))) :: ((.s (.o .unk)) :: ((.s (.o (.ptr 1 0 0 0))) :: ((.s (.o .nil)) :: ((.s (.o (.ptr 2 0 0 0))) :: ((.s (.o (.ptr 3 0 0 0))) :: (ru2 31 [])))))))))))))), [⟨0, 1, true, (some [[(.c 4 (nL tP))]])⟩, ⟨0, 1, true, (some [[(.c 4 (nL tP))]])⟩, ⟨0, 0, true, (some [[(.o .nil)]])⟩, ⟨0, 0, true, (some [[(.o (.ptr 4 0 0 0))]])⟩, ⟨84, 0, true, (some [])⟩], fun a H => (⟨(toI (slT a 10))⟩, ⟨0, (rL tP (slT a 9)), (toI (slT a 11)), (rL tP (slT (rwT (elT H 0) 0) 0)), (rL tP (slT (rwT (elT H 1) 0) 0)), 0, [], []⟩)⟩, ⟨((.s (.o .unk)) :: ((.s (.o (.ptr 0 0 0 0))) :: (ru2 7 ((.s (.c 4 (nL tP))) :: ((.s (.o (.int .i64))) :: ((.s (.o (.int .i64))) :: (ru2 35 ((.s (.o (.lit .i64 0))) :: ((.s (.o .unk)) :: ((.s (.o (.ptr 1 0 0 0))) :: ((.s (.o .nil)) :: ((.s (.o (.ptr 2 0 0 0))) :: ((.s (.o (.ptr 3 0 0 0))) :: (ru2 31 [])))))))))))))), [⟨0, 1, true, (some [[(.c 4 (nL tP))]])⟩, ⟨0, 1, true, (some [[(.c 4 (nL tP))]])⟩, ⟨0, 0, true, (some [[(.o (.sl 4 0 (some 0) none))]])⟩, ⟨0, 0, true, (some [[(.o (.ptr 5 0 0 0))]])⟩, ⟨53, 4, true, none⟩, ⟨84, 0, true, none⟩], fun a H => (⟨(toI (slT a 10))⟩, ⟨1, (rL tP (slT a 9)), (toI (slT a 11)), (rL tP (slT (rwT (elT H 0) 0) 0)), (rL tP (slT (rwT (elT H 1) 0) 0)), (slN (slT (rwT (elT H 2) 0) 0)), (elT H 4), (elT H 5)⟩)⟩], p7, [(some 0, fun p s => ⟨(.unk :: ((.ptr 0 0 0 0) :: (ra 7 ((eL tP s.J4) :: ((i p.sa3) :: ((i s.M8) :: ((b (decide (s.M8 < p.sa3))) :: (ra 34 ((i 0) :: (.unk :: ((.ptr 1 0 0 0) :: ((.v (.slice none 0 0)) :: ((.ptr 2 0 0 0) :: ((.ptr 3 0 0 0) :: (ra 31 []))))))))))))))), [⟨0, 1, [[(eL tP s.c9)]], true, false, 0⟩, ⟨0, 1, [[(eL tP s.oa8)]], true, false, 0⟩, ⟨0, 0, [[(.v (.slice none 0 0))]], true, false, 0⟩, ⟨0, 0, [[(.ptr 4 0 0 0)]], true, false, 0⟩, ⟨84, 0, [], true, false, 0⟩]⟩), (some 0, fun p s => ⟨(.unk :: ((.ptr 0 0 0 0) :: (ra 7 ((eL tP s.J4) :: ((i p.sa3) :: ((i s.M8) :: ((b (decide (s.M8 < p.sa3))) :: (ra 34 ((i 0) :: (.unk :: ((.ptr 1 0 0 0) :: ((.v (.slice none 0 0)) :: ((.ptr 2 0 0 0) :: ((.ptr 3 0 0 0) :: (ra 31 []))))))))))))))), [⟨0, 1, [[(eL tP s.c9)]], true, false, 0⟩, ⟨0, 1, [[(eL tP s.oa8)]], true, false, 0⟩, ⟨0, 0, [[(.sl 4 0 s.Eb6 0)]], true, false, 0⟩, ⟨0, 0, [[(.ptr 5 0 0 0)]], true, false, 0⟩, ⟨53, 4, s.eh4, true, false, 0⟩, ⟨84, 0, s.eh5, true, false, 0⟩]⟩)], Ma4⟩
theorem Ma5 : ba1.OkM := Lo.okM [ba0.prM] (by kernel_rfl) (.cons Ma3 .nil) rfl (.cons (fun a H => by kernel_rfl) (.cons (fun a H => by kernel_rfl) .nil)) fun p s => (.sel (Nat.beq s.ph 1) (.of @s9 (fun F _ _ _ _ _ => by unfold s9; (repeat' apply B7 (f := F)) <;> rfl) (by kernel_rfl)) (.of @s8 (fun F _ _ _ _ _ => by unfold s8; (repeat' apply B7 (f := F)) <;> rfl) (by kernel_rfl)))
noncomputable def M1 (x : List Pln) : Option (a7 × List a8) := let t1 := (lp (p7 (⟨(↑(List.length x) : Int)⟩ : m9)) (⟨0, (rt tP x), 0, (rt tP x), (rt tP x), 0, [], []⟩ : j4)); (sl ((cnE tP x) && ((cnE tP x) && ((cnE tP x) && true))) (sl (Nat.beq t1.1 1) (some ((.v (.slice none 0 0)), [])) (sl (Nat.beq t1.1 2) (some ((.sl 0 0 t1.2.Eb6 0), [⟨53, 4, t1.2.eh4, true, false, 0⟩])) none)) none)
noncomputable def M2 (x : List Pln) : List Pt := la0 (one (r1L tX)) (M1 x)
noncomputable def M3 (x : List Pln) : Bool := okO (one (r1L tX)) (M1 x)
noncomputable def fa9 : Sum := va8 (Ea9 tP) (fun x => .guard (M3 x) (.ret ((one (r1L tX)).enc (M2 x), [])))
theorem qa0 : j6 prog G 28 fa9 := gb0 (bd b28 Oa7) (one (r1L tX)) (o := M1) fun x => bd3 (.s .p (.s .p (.s .p (.s (.s .p (.b (.i (.s .p (.b (.u ba1.lsM)))))) .p)))) [ba1.prM] (by kernel_rfl) (.cons Ma5 .nil) (by kernel_rfl)
end Go.Ev.Ce
end
section
namespace Go.Ev.Ce
open Go Go.Ev Go.Ev.L Go.Proofs
set_option maxRecDepth 100000
noncomputable def Va1 : List (Nat × Sum) := []
theorem wb6 : o8 prog G Va1 := trivial
structure ba2 where
 is0 : Int
 oc5 : List Int
 is8 : Int
structure E9 where
 is9 : Int
noncomputable def qb7 (p : ba2) (s : E9) : St := ⟨((i p.is0) :: (ra 6 ((eL tI p.oc5) :: ((i p.is8) :: ((i s.is9) :: (ra 13 [])))))), []⟩
noncomputable def T9 {α : Type} (k : E9 → α) (e : Nat → α) (z : α) (p : ba2) (s : E9) : α := (sl (decide (s.is9 < p.is8)) (sl (inB s.is9 (List.length p.oc5)) (sl (decide ((gL tI p.oc5 s.is9.toNat) < (W (0 - p.is0)))) (e 1) (sl (decide ((gL tI p.oc5 s.is9.toNat) > p.is0)) (e 1) (k ⟨(W (s.is9 + 1))⟩))) z) (e 2))
noncomputable def X7 (p : ba2) (s : E9) : Stp E9 := T9 .next .exit .fail p s
noncomputable def ta7 : Lo ba2 E9 := ⟨En Va1, 0, md9, [1, 0, 1, 4, 4], [0, 7, 8, 9], .p, [⟨((.s (.o (.int .i64))) :: (ru2 6 ((.s (.c 1 (nL tI))) :: ((.s (.o (.int .i64))) :: ((.s (.o (.int .i64))) :: (ru2 13 [])))))), [], fun a H => (⟨(toI (slT a 0)), (rL tI (slT a 7)), (toI (slT a 8))⟩, ⟨(toI (slT a 9))⟩)⟩], X7, [(none, fun p s => ⟨[(b false)], []⟩), (some 0, fun p s => ⟨((i p.is0) :: (ra 6 ((eL tI p.oc5) :: ((i p.is8) :: ((i s.is9) :: ((b (decide (s.is9 < p.is8))) :: (ra 12 []))))))), []⟩)], qb7⟩
theorem qb8 : ta7.Ok := Lo.ok [] (by kernel_rfl) .nil rfl (.cons (fun a H => by kernel_rfl) .nil) fun p s => (.of @T9 (fun F _ _ _ _ _ => by unfold T9; (repeat' apply B7 (f := F)) <;> rfl) (by kernel_rfl))
noncomputable def ha4 (x : Int) (y : List Int) : Option (a7 × List a8) := let t1 := (lp (X7 (⟨x, (rt tI y), (↑(List.length y) : Int)⟩ : ba2)) (⟨0⟩ : E9)); (sl ((cnE tI y) && true) (sl (Nat.beq t1.1 1) (some ((b false), [])) (sl (Nat.beq t1.1 2) (some ((b true), [])) none)) none)
noncomputable def ba3 (x : Int) (y : List Int) : Bool := la0 (one r1B) (ha4 x y)
noncomputable def ba4 (x : Int) (y : List Int) : Bool := okO (one r1B) (ha4 x y)
noncomputable def Fa7 : Sum := va9 cI (Ea9 tI) (fun x y => .guard (ba4 x y) (.ret ((one r1B).enc (ba3 x y), [])))
theorem Va2 : j6 prog G 63 Fa7 := Ib7 (bd b63 wb6) (one r1B) (o := ha4) fun x y => gb2 (.s .p (.s (.s .p (.b (.u ta7.ls))) .p)) [ta7.pr] (by kernel_rfl) (.cons qb8 .nil) (by kernel_rfl)
noncomputable def qb9 : List (Nat × Sum) := []
theorem lb2 : o8 prog G qb9 := trivial
noncomputable def ja5 (x : Int) : Int := (if (W (0 - x)) > x then (W (0 - x)) else x)
noncomputable def Oa8 : Sum := va8 cI (fun x => .ret ((one r1I).enc (ja5 x), []))
theorem rb0 : j6 prog G 88 Oa8 := Db5 (bd b88 lb2) fun x => I7 (by kernel_rfl)
noncomputable def ta8 : List (Nat × Sum) := [(88, Oa8)]
theorem rb1 : o8 prog G ta8 := ⟨rb0, trivial⟩
structure P5 where
 ka6 : List Int
 is7 : Int
 is8 : Int
structure G1 where
 is3 : Int
 is5 : Int
noncomputable def lb3 (p : P5) (s : G1) : St := ⟨(ra 3 ((i s.is3) :: (.unk :: ((i s.is5) :: ((eL tI p.ka6) :: ((i p.is7) :: ((i p.is8) :: (ra 15 [])))))))), []⟩
noncomputable def Q7 {α : Type} (k : G1 → α) (e : Nat → α) (z : α) (p : P5) (s : G1) : α := (sl (decide (s.is5 > 0)) (sl (s.is5 == 0) z (k ⟨s.is5, (Int.tmod s.is3 s.is5)⟩)) (e 1))
noncomputable def M7 (p : P5) (s : G1) : Stp G1 := Q7 .next .exit .fail p s
noncomputable def qa1 : Lo P5 G1 := ⟨En ta8, 0, gd3, [1, 1, 0, 1, 4, 4, 1, 1, 0, 4, 1, 1, 1, 4, 4], [3, 5, 6, 7, 8], .p, [⟨(ru2 3 ((.s (.o (.int .i64))) :: ((.s (.o .unk)) :: ((.s (.o (.int .i64))) :: ((.s (.c 1 (nL tI))) :: ((.s (.o (.int .i64))) :: ((.s (.o (.int .i64))) :: (ru2 15 [])))))))), [], fun a H => (⟨(rL tI (slT a 6)), (toI (slT a 7)), (toI (slT a 8))⟩, ⟨(toI (slT a 3)), (toI (slT a 5))⟩)⟩], M7, [(some 2, fun p s => ⟨(ra 3 ((i s.is3) :: (.unk :: ((i s.is5) :: ((eL tI p.ka6) :: ((i p.is7) :: ((i p.is8) :: (ra 7 ((i s.is5) :: ((b (decide (s.is5 > 0))) :: (ra 6 []))))))))))), []⟩)], lb3⟩
theorem lb4 : qa1.Ok := Lo.ok [] (by kernel_rfl) .nil rfl (.cons (fun a H => by kernel_rfl) .nil) fun p s => (.of @Q7 (fun F _ _ _ _ _ => by unfold Q7; (repeat' apply B7 (f := F)) <;> rfl) (by kernel_rfl))
structure X8 where
 is7 : Int
structure D3 where
 is3 : Int
 ka6 : List Int
 is8 : Int
noncomputable def lb5 (p : X8) (s : D3) : St := ⟨(ra 3 ((i s.is3) :: (.unk :: (.unk :: ((eL tI s.ka6) :: ((i p.is7) :: ((i s.is8) :: (ra 15 [])))))))), []⟩
noncomputable def Q8 {α : Type} (k : D3 → α) (e : Nat → α) (z : α) (p : X8) (s : D3) : α := let t1 := (ja5 (gL tI s.ka6 s.is8.toNat)); let t2 := (lp (M7 (⟨(rt tI s.ka6), p.is7, s.is8⟩ : P5)) (⟨s.is3, t1⟩ : G1)); (sl (decide (s.is8 < p.is7)) (sl (inB s.is8 (List.length s.ka6)) (sl ((gL tI s.ka6 s.is8.toNat) == (-9223372036854775808)) (e 1) (sl ((cnE tI s.ka6) && true) (sl (Nat.beq t2.1 1) (k ⟨t2.2.is3, (rt tI s.ka6), (W (s.is8 + 1))⟩) z) z)) z) (e 2))
noncomputable def U0 (p : X8) (s : D3) : Stp D3 := Q8 .next .exit .fail p s
noncomputable def qa2 : Lo X8 D3 := ⟨En ta8, 0, gd3, [1, 1, 0, 1, 4, 4], [3, 6, 7, 8], (.s .p (.s .p (.s (.b (.s .p (.s .p (.s .p (.b (.u qa1.ls)))))) .p))), [⟨(ru2 3 ((.s (.o (.int .i64))) :: ((.s (.o .unk)) :: ((.s (.o .unk)) :: ((.s (.c 1 (nL tI))) :: ((.s (.o (.int .i64))) :: ((.s (.o (.int .i64))) :: (ru2 15 [])))))))), [], fun a H => (⟨(toI (slT a 7))⟩, ⟨(toI (slT a 3)), (rL tI (slT a 6)), (toI (slT a 8))⟩)⟩], U0, [(none, fun p s => ⟨[(i 0)], []⟩), (some 0, fun p s => ⟨(ra 3 ((i s.is3) :: (.unk :: (.unk :: ((eL tI s.ka6) :: ((i p.is7) :: ((i s.is8) :: ((b (decide (s.is8 < p.is7))) :: (ra 14 []))))))))), []⟩)], lb5⟩
theorem lb6 : qa2.Ok := Lo.ok [qa1.pr] (by kernel_rfl) (.cons lb4 .nil) rfl (.cons (fun a H => by kernel_rfl) .nil) fun p s => (.of @Q8 (fun F _ _ _ _ _ => by unfold Q8; (repeat' apply B7 (f := F)) <;> rfl) (by kernel_rfl))
noncomputable def da8 (x : List Int) : Option (a7 × List a8) := let t1 := (lp (U0 (⟨(↑(List.length x) : Int)⟩ : X8)) (⟨0, (rt tI x), 0⟩ : D3)); (sl ((cnE tI x) && true) (sl (Nat.beq t1.1 1) (some ((i 0), [])) (sl (Nat.beq t1.1 2) (some ((i t1.2.is3), [])) none)) none)
noncomputable def ma9 (x : List Int) : Int := la0 (one r1I) (da8 x)
noncomputable def na0 (x : List Int) : Bool := okO (one r1I) (da8 x)
noncomputable def Va3 : Sum := va8 (Ea9 tI) (fun x => .guard (na0 x) (.ret ((one r1I).enc (ma9 x), [])))
theorem wb7 : j6 prog G 69 Va3 := gb0 (bd b69 rb1) (one r1I) (o := da8) fun x => gb2 (.s .p (.s .p (.s (.s .p (.b (.u qa2.ls))) .p))) [qa2.pr] (by kernel_rfl) (.cons lb6 .nil) (by kernel_rfl)
noncomputable def Kb6 : List (Nat × Sum) := [(63, Fa7), (69, Va3)]
theorem Bb1 : o8 prog G Kb6 := ⟨Va2, wb7, trivial⟩
noncomputable def la9 (x : Pln) : Option (a7 × List a8) := let t1 := (ba3 4608 [x.n.x, x.n.y, x.n.z]); let t2 := (ma9 [x.n.x, x.n.y, x.n.z]); let t3 := (ba3 2097152 [x.b]); (sl (ba4 4608 [x.n.x, x.n.y, x.n.z]) (sl t1 (sl (na0 [x.n.x, x.n.y, x.n.z]) (sl (t2 == 1) (sl (ba4 2097152 [x.b]) (some ((b t3), [])) none) (some ((b false), []))) none) (some ((b false), []))) none)
noncomputable def va1 (x : Pln) : Bool := la0 (one r1B) (la9 x)
noncomputable def va2 (x : Pln) : Bool := okO (one r1B) (la9 x)
noncomputable def ib6 : Sum := va8 (Ha4 tP) (fun x => .guard (va2 x) (.ret ((one r1B).enc (va1 x), [])))
theorem Kb7 : j6 prog G 45 ib6 := gb0 (bd b45 Bb1) (one r1B) (o := la9) fun x => I7 (by kernel_rfl)
noncomputable def Bb2 : List (Nat × Sum) := [(45, ib6)]
theorem wb8 : o8 prog G Bb2 := ⟨Kb7, trivial⟩
noncomputable def ha5 (x : Pln) : Option (a7 × List a8) := let t1 := (va1 x); (sl (va2 x) (some ((b (!t1)), [])) none)
noncomputable def qa3 (x : Pln) : Bool := la0 (one r1B) (ha5 x)
noncomputable def qa4 (x : Pln) : Bool := okO (one r1B) (ha5 x)
noncomputable def bb4 : Sum := va8 (Ha4 tP) (fun x => .guard (qa4 x) (.ret ((one r1B).enc (qa3 x), [])))
theorem Bb3 : j6 prog G 49 bb4 := gb0 (bd b49 wb8) (one r1B) (o := ha5) fun x => I7 (by kernel_rfl)
structure K6 where
 u9 : List Pln
noncomputable def ha6 : List (Nat × Sum) := [(49, bb4)]
theorem Ca3 : o8 prog G ha6 := ⟨Bb3, trivial⟩
structure D4 where
 u9 : List Pln
 is7 : Int
structure l0 where
 is8 : Int
noncomputable def za1 (p : D4) (s : l0) : St := ⟨((eL tP p.u9) :: ((.fn 49 []) :: (ra 5 ((i p.is7) :: ((i s.is8) :: (ra 10 [])))))), []⟩
noncomputable def z9 {α : Type} (k : l0 → α) (e : Nat → α) (z : α) (p : D4) (s : l0) : α := let t1 := (qa3 (gL tP p.u9 s.is8.toNat)); (sl (decide (s.is8 < p.is7)) (sl (inB s.is8 (List.length p.u9)) (sl (qa4 (gL tP p.u9 s.is8.toNat)) (sl t1 (e 1) (k ⟨(W (s.is8 + 1))⟩)) z) z) (e 2))
noncomputable def C0 (p : D4) (s : l0) : Stp l0 := z9 .next .exit .fail p s
noncomputable def R7 : Lo D4 l0 := ⟨En ha6, 0, Wc5, [1, 0, 1, 4, 4], [0, 1, 7, 8], .p, [⟨((.s (.c 4 (nL tP))) :: ((.s (.o (.fn 49))) :: (ru2 5 ((.s (.o (.int .i64))) :: ((.s (.o (.int .i64))) :: (ru2 10 [])))))), [], fun a H => (⟨(rL tP (slT a 0)), (toI (slT a 7))⟩, ⟨(toI (slT a 8))⟩)⟩], C0, [(none, fun p s => ⟨[(i s.is8)], []⟩), (some 0, fun p s => ⟨((eL tP p.u9) :: ((.fn 49 []) :: (ra 5 ((i p.is7) :: ((i s.is8) :: ((b (decide (s.is8 < p.is7))) :: (ra 9 []))))))), []⟩)], za1⟩
theorem za2 : R7.Ok := Lo.ok [] (by kernel_rfl) .nil rfl (.cons (fun a H => by kernel_rfl) .nil) fun p s => (.of @z9 (fun F _ _ _ _ _ => by unfold z9; (repeat' apply B7 (f := F)) <;> rfl) (by kernel_rfl))
structure K7 where
 alt : Nat
 is0 : Int
noncomputable def A6 {α : Type} (kk : K7 → α) (x : K6) : α := let t1 := (lp (C0 (⟨(rt tP x.u9), (↑(List.length x.u9) : Int)⟩ : D4)) (⟨0⟩ : l0)); (sl ((cnE tP x.u9) && true) (sl (Nat.beq t1.1 1) (kk ⟨1, t1.2.is8⟩) (sl (Nat.beq t1.1 2) (kk ⟨1, (-1)⟩) (kk ⟨0, 0⟩))) (kk ⟨0, 0⟩))
noncomputable def W4 (x : K6) : K7 := A6 (fun r => r) x
noncomputable def U1 (x : K6) (r : K7) : DT (a7 × List a8) := (.ite (Nat.beq r.alt 1) (.ret ((i r.is0), [])) .fail)
theorem Ia3 {α β : Type} (F : α → β) (kk : K7 → α) (x : K6) : F (A6 kk x) = A6 (fun r => F (kk r)) x := by unfold A6; (repeat' apply B7 (f := F)) <;> rfl
noncomputable def ja9 : Sum := La8 ⟨[(.s (.c 4 (nL tP))), (.s (.o (.fn 49)))], [], fun a H => (⟨(rL tP (slT a 0))⟩, ())⟩ (fun x => U1 x (W4 x))
theorem Fa8 : j6 prog G 55 ja9 := P4 (enc := fun x => ⟨[(eL tP x.u9), (.fn 49 [])], []⟩) (fun a H => by kernel_rfl) (bd b55 Ca3) fun x => gb2 (.s .p (.s (.s .p (.b (.u R7.ls))) .p)) [R7.pr] (by kernel_rfl) (.cons za2 .nil) (Eq.trans (b := A6 (fun r => (U1 x r).run) x) (by kernel_rfl) (Ia3 (fun r => (U1 x r).run) (fun r => r) x).symm)
structure H4 where
 u9 : List Pln
noncomputable def wa6 : List (Nat × Sum) := [(55, ja9)]
theorem ta9 : o8 prog G wa6 := ⟨Fa8, trivial⟩
structure H5 where
 alt : Nat
 bs0 : Bool
noncomputable def v5 {α : Type} (kk : H5 → α) (x : H4) : α := let t1 := (W4 ⟨(rt tP x.u9)⟩); (sl ((cnE tP x.u9) && true) (sl (Nat.beq t1.alt 1) (kk ⟨1, (decide (t1.is0 ≥ 0))⟩) (kk ⟨0, false⟩)) (kk ⟨0, false⟩))
noncomputable def P9 (x : H4) : H5 := v5 (fun r => r) x
noncomputable def O4 (x : H4) (r : H5) : DT (a7 × List a8) := (.ite (Nat.beq r.alt 1) (.ret ((b r.bs0), [])) .fail)
theorem za3 {α β : Type} (F : α → β) (kk : H5 → α) (x : H4) : F (v5 kk x) = v5 (fun r => F (kk r)) x := by unfold v5; (repeat' apply B7 (f := F)) <;> rfl
noncomputable def da9 : Sum := La8 ⟨[(.s (.c 4 (nL tP))), (.s (.o (.fn 49)))], [], fun a H => (⟨(rL tP (slT a 0))⟩, ())⟩ (fun x => O4 x (P9 x))
theorem wa7 : j6 prog G 48 da9 := P4 (enc := fun x => ⟨[(eL tP x.u9), (.fn 49 [])], []⟩) (fun a H => by kernel_rfl) (bd b48 ta9) fun x => I7 (Eq.trans (b := v5 (fun r => (O4 x r).run) x) (by kernel_rfl) (za3 (fun r => (O4 x r).run) (fun r => r) x).symm)
noncomputable def Pb8 : List (Nat × Sum) := [(48, da9)]
theorem Kb8 : o8 prog G Pb8 := ⟨wa7, trivial⟩
noncomputable def qa5 (x : List Pln) : Option (a7 × List a8) := let t1 := (P9 ⟨(rt tP x)⟩); (sl (decide ((↑(List.length x) : Int) > 48)) (some ((i 2), [])) (sl ((cnE tP x) && true) (sl (Nat.beq t1.alt 1) (sl t1.bs0 (some ((i 12), [])) (some ((i 0), []))) none) none))
noncomputable def qa6 (x : List Pln) : Int := la0 (one r1I) (qa5 x)
noncomputable def qa7 (x : List Pln) : Bool := okO (one r1I) (qa5 x)
noncomputable def Sa9 : Sum := va8 (Ea9 tP) (fun x => .guard (qa7 x) (.ret ((one r1I).enc (qa6 x), [])))
theorem ib7 : j6 prog G 19 Sa9 := gb0 (bd b19 Kb8) (one r1I) (o := qa5) fun x => I7 (by kernel_rfl)
noncomputable def Bb4 : List (Nat × Sum) := [(19, Sa9)]
theorem wb9 : o8 prog G Bb4 := ⟨ib7, trivial⟩
noncomputable def ha7 (x : List Pln) : Option (a7 × List a8) := let t1 := (qa6 (rt tP x)); (sl (okE tP x) (sl (qa7 (rt tP x)) (some ((b (t1 != 0)), [])) none) none)
noncomputable def qa8 (x : List Pln) : Bool := la0 (one r1B) (ha7 x)
noncomputable def qa9 (x : List Pln) : Bool := okO (one r1B) (ha7 x)
noncomputable def bb5 : Sum := va8 (Ea9 tP) (fun x => .guard (qa9 x) (.ret ((one r1B).enc (qa8 x), [])))
theorem Bb5 : j6 prog G 51 bb5 := gb0 (bd b51 wb9) (one r1B) (o := ha7) fun x => I7 (by kernel_rfl)
end Go.Ev.Ce
end
namespace Go.Proofs
open Go.Shelf
shelf_lay_g Lays8.n4 Nm8 4 at Try 71 as Ce.growP
end Go.Proofs
namespace Go.Ev.Ce
open Go Go.Ev Go.Proofs
noncomputable def ac7 : List a7 := [i 0, i 0, i 0, i 0]
noncomputable def la1 : Sum := fun args blks => match args, blks with
 | [.v (.slice none 0 0), .v (.int .i64 n)], [] => .ite (n == 0) (.ret (.v (.slice none 0 0), []))
   (.guard (Bool.and (decide (0 < n)) (Nat.ble (n.toNat * 32) room)) (.ret (.sl 0 0 0 0, [⟨42, 4, List.replicate n.toNat ac7, true, false, 0⟩])))
 | _, _ => .fail
theorem z42 : zeT Try.prog 42 = some ac7 := by kernel_rfl
theorem s50 : szT Try.prog 42 = 4 := by kernel_rfl
theorem y50 : byT Try.prog 42 = 32 := by kernel_rfl
theorem t25 : Ce.growP_ren.t 25 = 42 := by kernel_rfl
theorem f4 : Ce.growP_ren.f 4 = 71 := by kernel_rfl
set_option maxRecDepth 100000 in
theorem bb6 : j6 prog G 71 la1 := by
 intro args blks r out he W ρ F w args' hH hlen hargs hG
 refine ⟨⟨_, Try.func71, by kernel_rfl, of_decide_eq_true (by kernel_rfl)⟩, ?_⟩
 unfold la1 at he
 split at he
 case h_2 => cases he
 rename_i n
 match args', hlen with
 | [v0, v1], _ =>
 have e0 := Q6 (hargs 0 _ _ rfl rfl)
 have e1 := Q6 (hargs 1 _ _ rfl rfl)
 subst e0 e1
 rcases DT.run_ite_some he with ⟨h0, he⟩ | ⟨h0, he⟩
 ·have h0 : n = 0 := by simpa using h0
  subst h0
  injection he with he; injection he with q1 q2; subst q1 q2
  have := Any8.slices_Grow_room Ce.growP none 0 0 0 w (Nat.le_refl _) (by omega) (by omega) (by omega)
  rw [f4] at this
  refine this.mono fun e w' ⟨h1, h2⟩ => ?_
  subst h1 h2
  exact ⟨_, rfl, ρ, F, .refl, hH, .ofv _⟩
 ·obtain ⟨hg, he⟩ := DT.run_guard_some he
  rw [Bool.and_eq_true, decide_eq_true_eq] at hg
  obtain ⟨hpos, hroom⟩ := hg
  have hroom := Nat.le_of_ble_eq_true hroom
  unfold room at hroom
  obtain ⟨m, rfl⟩ := Int.eq_ofNat_of_zero_le (Int.le_of_lt hpos)
  have hm : 0 < m := by omega
  have he : some (a7.sl 0 0 0 0, [(⟨42, 4, List.replicate m ac7, true, false, 0⟩ : a8)]) = some (r, out) := he
  injection he with he; injection he with q1 q2; subst q1 q2
  obtain ⟨ti, zv, hi, hzz, hzr, hone⟩ := sa9 (E := En []) z42
  have hi : Try.prog.info? 42 = some ti := hi
  have hts : ti.size = 4 := by have := s50; simp only [szT, hi] at this; exact this
  have hby : ti.bytes = 32 := by have := y50; simp only [byT, hi] at this; exact this
  have hzs : zv.cells.size = 4 := by
   have := congrArg List.length hzr
   simpa [ac7] using this.symm
  have hroom' : m * 32 ≤ 140737488355328 := hroom
  have := Any8.slices_Grow_grow Ce.growP ti zv (by rw [t25]; exact hi) hzz (by omega) none 0 0 m [] w (Nat.le_refl _) (by omega) (by rw [hby]; omega) (by omega) (by simp) (fun _ => rfl) (fun a ha => by cases ha)
  rw [f4, t25] at this
  refine this.mono fun e w' ⟨h1, h2⟩ => ?_
  have hcap := grownCap_ge w (0 + m) 0 42
  have hcap2 := grownCap_le_maxLen w (0 + m) 0 42 (by unfold maxLen; omega)
  subst h1
  generalize grownCap w (0 + m) 0 42 = G' at *
  have hsz : ∀ q, (Builtin.zeroCells zv.cells q).size = q * 4 := fun q => by simp [Builtin.zeroCells, hzs]
  have hcc : (#[] ++ Builtin.zeroCells zv.cells (0 + m - 0) ++ Builtin.zeroCells zv.cells (G' - (0 + m))).size = G' * 4 := by
   rw [Array.size_append, Array.size_append, hsz, hsz]
   simp
   omega
  have hobj : w'.heap[w.heap.size]? = some (.cells (#[] ++ Builtin.zeroCells zv.cells (0 + m - 0) ++ Builtin.zeroCells zv.cells (G' - (0 + m))) 42 (0, 0)) := by
   rw [h2]
   exact World.alloc_heap_new w.drew _
  have hold : ∀ k, k < w.heap.size → w'.heap[k]? = w.heap[k]? := fun k hk => by
   rw [h2]
   simp only [World.alloc, Array.getElem?_push, World.drew]
   rw [if_neg (by omega)]
  have hws : w'.heap.size = w.heap.size + 1 := by rw [h2]; exact Array.size_push ..
  obtain ⟨h6, h7⟩ := hH.newAt (w' := w') (by rw [h2]; rfl) (by rw [h2]; rfl) (by rw [h2]; rfl) (by rw [h2]; exact Nat.le_succ _) (by omega) hold w.heap.size (Nat.le_refl _) 42 4 (List.replicate m ac7) _ 42 hobj
   (fun j r hr => by rw [List.getElem?_replicate] at hr; split at hr <;> cases hr; rfl) (by rw [List.length_replicate, hcc]; omega)
   (fun j r c x hr hx => by
    have hjm : j < m := by
     have := (List.getElem?_eq_some_iff.1 hr).1
     simpa using this
    rw [List.getElem?_replicate, if_pos hjm] at hr
    injection hr with hr
    subst hr
    have hc4 : c < 4 := (List.getElem?_eq_some_iff.1 hx).1
    rw [hzr, List.getElem?_map] at hx
    have hcz : c < zv.cells.size := by omega
    have hq : zv.cells.toList[c]? = some zv.cells[c] := by simp [hcz]
    rw [hq] at hx
    injection hx with hx
    subst hx
    refine ⟨zv.cells[c], ?_, .v _ (hone _ (by simp))⟩
    have hlt : j * 4 + c < m * 4 := by omega
    rw [Array.append_assoc, Array.empty_append, Array.getElem?_append_left (by rw [hsz]; omega)]
    have hm4 : (j * 4 + c) % 4 = c := by omega
    simp only [Builtin.zeroCells, hzs]
    rw [Array.getElem?_map, Array.getElem?_range]
    rw [if_pos (by omega)]
    simp [hm4, hcz])
   (fun _ => rfl)
  refine ⟨_, rfl, _, F, h6, h7, .val (.cell ?_)⟩
  refine .sl 0 0 0 0 _ _ { et := 42, es := 4, elems := List.replicate m ac7, own := true, dead := false, g := 0 } rfl rfl (Nat.le_refl _) (Nat.zero_le _) rfl hcap2 fun _ => ⟨.inr ?_, ?_, by simp⟩
  ·simp [ρnew]
  ·simp only [ρnew, List.length_nil, if_true]
   rw [hcc, Nat.zero_add]
end Go.Ev.Ce
section
namespace Go.Ev.Ce
open Go Go.Ev Go.Ev.L Go.Proofs
set_option maxRecDepth 100000
noncomputable def da1 : List (Nat × Sum) := [(71, la1)]
theorem Oa9 : o8 prog G da1 := ⟨bb6, trivial⟩
structure I8 where
 ga2 : List (List Pln)
 Nb9 : List (List Pln)
 sa3 : Int
structure o0 where
 is3 : Int
 M8 : Int
noncomputable def Ma6 (p : I8) (s : o0) : St := ⟨((eL (tLs tP) p.ga2) :: (.unk :: (.unk :: ((i s.is3) :: (ra 5 ((eL (tLs tP) p.Nb9) :: ((i p.sa3) :: ((i s.M8) :: (ra 24 []))))))))), []⟩
noncomputable def F5 {α : Type} (k : o0 → α) (e : Nat → α) (z : α) (p : I8) (s : o0) : α := (sl (decide (s.M8 < p.sa3)) (sl (inB s.M8 (List.length p.Nb9)) (sl (decide ((W (s.is3 + (↑(List.length (gL (tLs tP) p.Nb9 s.M8.toNat)) : Int))) < 0)) z (k ⟨(W (s.is3 + (↑(List.length (gL (tLs tP) p.Nb9 s.M8.toNat)) : Int))), (W (s.M8 + 1))⟩)) z) (e 1))
noncomputable def C9 (p : I8) (s : o0) : Stp o0 := F5 .next .exit .fail p s
noncomputable def ba5 : Lo I8 o0 := ⟨En da1, 0, gd1, [1, 1, 0, 1, 4, 4], [0, 3, 9, 10, 11], .p, [⟨((.s (.c 1 (nL (tLs tP)))) :: ((.s (.o .unk)) :: ((.s (.o .unk)) :: ((.s (.o (.int .i64))) :: (ru2 5 ((.s (.c 1 (nL (tLs tP)))) :: ((.s (.o (.int .i64))) :: ((.s (.o (.int .i64))) :: (ru2 24 []))))))))), [], fun a H => (⟨(rL (tLs tP) (slT a 0)), (rL (tLs tP) (slT a 9)), (toI (slT a 10))⟩, ⟨(toI (slT a 3)), (toI (slT a 11))⟩)⟩], C9, [(some 0, fun p s => ⟨((eL (tLs tP) p.ga2) :: (.unk :: (.unk :: ((i s.is3) :: (ra 5 ((eL (tLs tP) p.Nb9) :: ((i p.sa3) :: ((i s.M8) :: ((b (decide (s.M8 < p.sa3))) :: (ra 23 [])))))))))), []⟩)], Ma6⟩
theorem Ma7 : ba5.OkM := Lo.okM [] (by kernel_rfl) .nil rfl (.cons (fun a H => by kernel_rfl) .nil) fun p s => (.of @F5 (fun F _ _ _ _ _ => by unfold F5; (repeat' apply B7 (f := F)) <;> rfl) (by kernel_rfl))
structure o2 where
 aa3 : List (List Pln)
 oc6 : Int
structure i7 where
 ph : Nat
 Ja8 : Int
 ns6 : Nat
 eh0 : List (List a7)
noncomputable def Ia4 (p : o2) (s : i7) : St := ⟨(ra 6 ((.v (.slice none 0 0)) :: (ra 18 ((eL (tLs tP) p.aa3) :: ((i p.oc6) :: ((i s.Ja8) :: (ra 8 []))))))), []⟩
noncomputable def Ia5 (p : o2) (s : i7) : St := ⟨(ra 6 ((.sl 0 0 s.ns6 0) :: (ra 18 ((eL (tLs tP) p.aa3) :: ((i p.oc6) :: ((i s.Ja8) :: (ra 8 []))))))), [⟨42, 4, s.eh0, true, false, 0⟩]⟩
noncomputable def Ma8 (p : o2) (s : i7) : St := (sel (Nat.beq s.ph 1) (Ia5 p s) (Ia4 p s))
noncomputable def u4 {α : Type} (k : i7 → α) (e : Nat → α) (z : α) (p : o2) (s : i7) : α := (sl (decide (s.Ja8 < p.oc6)) (sl (inB s.Ja8 (List.length p.aa3)) (sl (Nat.beq (len (o3 (fun k => (tP).row (gL tP (gL (tLs tP) p.aa3 s.Ja8.toNat) k)) (List.range (List.length (gL (tLs tP) p.aa3 s.Ja8.toNat))))) 0) (k ⟨0, (W (s.Ja8 + 1)), 0, []⟩) z) z) (e 1))
noncomputable def u5 {α : Type} (k : i7 → α) (e : Nat → α) (z : α) (p : o2) (s : i7) : α := (sl (decide (s.Ja8 < p.oc6)) (sl (inB s.Ja8 (List.length p.aa3)) (sl (Nat.ble (s.ns6 + (len (o3 (fun k => (tP).row (gL tP (gL (tLs tP) p.aa3 s.Ja8.toNat) k)) (List.range (List.length (gL (tLs tP) p.aa3 s.Ja8.toNat)))))) (len s.eh0)) (k ⟨1, (W (s.Ja8 + 1)), (s.ns6 + (len (o3 (fun k => (tP).row (gL tP (gL (tLs tP) p.aa3 s.Ja8.toNat) k)) (List.range (List.length (gL (tLs tP) p.aa3 s.Ja8.toNat)))))), (app (E2 s.eh0 s.ns6) (app (o3 (fun k => (tP).row (gL tP (gL (tLs tP) p.aa3 s.Ja8.toNat) k)) (List.range (List.length (gL (tLs tP) p.aa3 s.Ja8.toNat)))) (j8 s.eh0 (s.ns6 + (len (o3 (fun k => (tP).row (gL tP (gL (tLs tP) p.aa3 s.Ja8.toNat) k)) (List.range (List.length (gL (tLs tP) p.aa3 s.Ja8.toNat)))))))))⟩) z) z) (e 2))
noncomputable def w9 (p : o2) (s : i7) : Stp i7 := (sel (Nat.beq s.ph 1) (u5 .next .exit .fail p s) (u4 .next .exit .fail p s))
noncomputable def ba6 : Lo o2 i7 := ⟨En da1, 0, gd1, [1, 1, 1, 1, 0, 1, 4, 4], [6, 25, 26, 27], .p, [⟨(ru2 6 ((.s (.o .nil)) :: (ru2 18 ((.s (.c 1 (nL (tLs tP)))) :: ((.s (.o (.int .i64))) :: ((.s (.o (.int .i64))) :: (ru2 8 []))))))), [], fun a H => (⟨(rL (tLs tP) (slT a 25)), (toI (slT a 26))⟩, ⟨0, (toI (slT a 27)), 0, []⟩)⟩, ⟨(ru2 6 ((.s (.o (.sl 0 0 (some 0) none))) :: (ru2 18 ((.s (.c 1 (nL (tLs tP)))) :: ((.s (.o (.int .i64))) :: ((.s (.o (.int .i64))) :: (ru2 8 []))))))), [⟨42, 4, true, none⟩], fun a H => (⟨(rL (tLs tP) (slT a 25)), (toI (slT a 26))⟩, ⟨1, (toI (slT a 27)), (slN (slT a 6)), (elT H 0)⟩)⟩], w9, [(some 2, fun p s => ⟨(ra 6 ((.v (.slice none 0 0)) :: (ra 18 ((eL (tLs tP) p.aa3) :: ((i p.oc6) :: ((i s.Ja8) :: ((b (decide (s.Ja8 < p.oc6))) :: (ra 7 [])))))))), []⟩), (some 2, fun p s => ⟨(ra 6 ((.sl 0 0 s.ns6 0) :: (ra 18 ((eL (tLs tP) p.aa3) :: ((i p.oc6) :: ((i s.Ja8) :: ((b (decide (s.Ja8 < p.oc6))) :: (ra 7 [])))))))), [⟨42, 4, s.eh0, true, false, 0⟩]⟩)], Ma8⟩
theorem Ma9 : ba6.OkM := Lo.okM [] (by kernel_rfl) .nil rfl (.cons (fun a H => by kernel_rfl) (.cons (fun a H => by kernel_rfl) .nil)) fun p s => (.sel (Nat.beq s.ph 1) (.of @u5 (fun F _ _ _ _ _ => by unfold u5; (repeat' apply B7 (f := F)) <;> rfl) (by kernel_rfl)) (.of @u4 (fun F _ _ _ _ _ => by unfold u4; (repeat' apply B7 (f := F)) <;> rfl) (by kernel_rfl)))
structure V9 where
 alt : Nat
 ns0 : Nat
 eh0 : List (List a7)
noncomputable def G3 {α : Type} (kk : V9 → α) (x : List (List Pln)) : α := let t1 := (lp (C9 (⟨(rt (tLs tP) x), (rt (tLs tP) x), (↑(List.length x) : Int)⟩ : I8)) (⟨0, 0⟩ : o0)); let t2 := (lp (w9 (⟨(rt (tLs tP) (rt (tLs tP) x)), (↑(List.length (rt (tLs tP) x)) : Int)⟩ : o2)) (⟨0, 0, 0, []⟩ : i7)); let t3 := (lp (w9 (⟨(rt (tLs tP) (rt (tLs tP) x)), (↑(List.length (rt (tLs tP) x)) : Int)⟩ : o2)) (⟨1, 0, 0, (List.replicate t1.2.is3.toNat ac7)⟩ : i7)); (sl ((cnE (tLs tP) x) && ((cnE (tLs tP) x) && true)) (sl (Nat.beq t1.1 1) (sl (t1.2.is3 == 0) (sl ((cnE (tLs tP) (rt (tLs tP) x)) && true) (sl (Nat.beq t2.1 1) (kk ⟨1, 0, []⟩) (sl (Nat.beq t2.1 2) (kk ⟨2, t2.2.ns6, t2.2.eh0⟩) (kk ⟨0, 0, []⟩))) (kk ⟨0, 0, []⟩)) (sl (Bool.and (decide (0 < t1.2.is3)) (Nat.ble (t1.2.is3.toNat * 32) room)) (sl ((cnE (tLs tP) (rt (tLs tP) x)) && true) (sl (Nat.beq t3.1 1) (kk ⟨1, 0, []⟩) (sl (Nat.beq t3.1 2) (kk ⟨2, t3.2.ns6, t3.2.eh0⟩) (kk ⟨0, 0, []⟩))) (kk ⟨0, 0, []⟩)) (kk ⟨0, 0, []⟩))) (kk ⟨0, 0, []⟩)) (kk ⟨0, 0, []⟩))
noncomputable def W0 (x : List (List Pln)) : V9 := G3 (fun r => r) x
noncomputable def da2 (r : V9) : DT (a7 × List a8) := (.ite (Nat.beq r.alt 1) (.ret ((.v (.slice none 0 0)), [])) (.ite (Nat.beq r.alt 2) (.ret ((.sl 0 0 r.ns0 0), [⟨42, 4, r.eh0, true, false, 0⟩])) .fail))
theorem Wa1 {α β : Type} (F : α → β) (kk : V9 → α) (x : List (List Pln)) : F (G3 kk x) = G3 (fun r => F (kk r)) x := by unfold G3; (repeat' apply B7 (f := F)) <;> rfl
noncomputable def sa5 : Sum := va8 (Ea9 (tLs tP)) (fun x => da2 (W0 x))
theorem Ta0 : j6 prog G 52 sa5 := Db5 (bd b52 Oa9) fun x => bd3 (.s .p (.s .p (.s (.s .p (.b (.u ba5.lsM))) (.s .p (.s (.s .p (.b (.u ba6.lsM))) .p))))) [ba5.prM, ba6.prM] (by kernel_rfl) (.cons Ma7 (.cons Ma9 .nil)) (Eq.trans (b := G3 (fun r => (da2 r).run) x) (by kernel_rfl) (Wa1 (fun r => (da2 r).run) (fun r => r) x).symm)
noncomputable def tc5 : List (Nat × Sum) := [(52, sa5)]
theorem kc9 : o8 prog G tc5 := ⟨Ta0, trivial⟩
noncomputable def Pa0 (x : List (List Pln)) : Option (a7 × List a8) := let t1 := (W0 (rt (tLs tP) x)); (sl (okE (tLs tP) x) (sl (Nat.beq t1.alt 1) (some ((.sl 0 0 6 0), [⟨42, 4, [[(i 1), (i 0), (i 0), (i 24)], [(i (-1)), (i 0), (i 0), (i 24)], [(i 0), (i 1), (i 0), (i 24)], [(i 0), (i (-1)), (i 0), (i 24)], [(i 0), (i 0), (i 1), (i 24)], [(i 0), (i 0), (i (-1)), (i 24)]], true, false, 0⟩])) (sl (Nat.beq t1.alt 2) (sl (Nat.beq t1.ns0 (len t1.eh0) && Nat.ble ((t1.ns0 + 1) * 32) room) (sl (Nat.beq (t1.ns0 + 1) (len (app t1.eh0 [[(i 1), (i 0), (i 0), (i 24)]])) && Nat.ble (((t1.ns0 + 1) + 1) * 32) room) (sl (Nat.beq ((t1.ns0 + 1) + 1) (len (app (app t1.eh0 [[(i 1), (i 0), (i 0), (i 24)]]) [[(i (-1)), (i 0), (i 0), (i 24)]])) && Nat.ble ((((t1.ns0 + 1) + 1) + 1) * 32) room) (sl (Nat.beq (((t1.ns0 + 1) + 1) + 1) (len (app (app (app t1.eh0 [[(i 1), (i 0), (i 0), (i 24)]]) [[(i (-1)), (i 0), (i 0), (i 24)]]) [[(i 0), (i 1), (i 0), (i 24)]])) && Nat.ble (((((t1.ns0 + 1) + 1) + 1) + 1) * 32) room) (sl (Nat.beq ((((t1.ns0 + 1) + 1) + 1) + 1) (len (app (app (app (app t1.eh0 [[(i 1), (i 0), (i 0), (i 24)]]) [[(i (-1)), (i 0), (i 0), (i 24)]]) [[(i 0), (i 1), (i 0), (i 24)]]) [[(i 0), (i (-1)), (i 0), (i 24)]])) && Nat.ble ((((((t1.ns0 + 1) + 1) + 1) + 1) + 1) * 32) room) (sl (Nat.beq (((((t1.ns0 + 1) + 1) + 1) + 1) + 1) (len (app (app (app (app (app t1.eh0 [[(i 1), (i 0), (i 0), (i 24)]]) [[(i (-1)), (i 0), (i 0), (i 24)]]) [[(i 0), (i 1), (i 0), (i 24)]]) [[(i 0), (i (-1)), (i 0), (i 24)]]) [[(i 0), (i 0), (i 1), (i 24)]])) && Nat.ble (((((((t1.ns0 + 1) + 1) + 1) + 1) + 1) + 1) * 32) room) (some ((.sl 0 0 ((((((t1.ns0 + 1) + 1) + 1) + 1) + 1) + 1) 0), [⟨42, 4, (app (app (app (app (app (app t1.eh0 [[(i 1), (i 0), (i 0), (i 24)]]) [[(i (-1)), (i 0), (i 0), (i 24)]]) [[(i 0), (i 1), (i 0), (i 24)]]) [[(i 0), (i (-1)), (i 0), (i 24)]]) [[(i 0), (i 0), (i 1), (i 24)]]) [[(i 0), (i 0), (i (-1)), (i 24)]]), true, false, 0⟩])) none) none) none) none) none) none) none)) none)
noncomputable def ua0 (x : List (List Pln)) : List Pln := la0 (one (r1L tP)) (Pa0 x)
noncomputable def ua1 (x : List (List Pln)) : Bool := okO (one (r1L tP)) (Pa0 x)
noncomputable def eb9 : Sum := va8 (Ea9 (tLs tP)) (fun x => .guard (ua1 x) (.ret ((one (r1L tP)).enc (ua0 x), [])))
theorem lb7 : j6 prog G 27 eb9 := gb0 (bd b27 kc9) (one (r1L tP)) (o := Pa0) fun x => I7 (by kernel_rfl)
structure K8 where
 ga2 : List (List Pln)
noncomputable def ha8 : List (Nat × Sum) := [(51, bb5)]
theorem Ca4 : o8 prog G ha8 := ⟨Bb5, trivial⟩
structure D5 where
 ga2 : List (List Pln)
 is7 : Int
structure l4 where
 is8 : Int
noncomputable def za4 (p : D5) (s : l4) : St := ⟨((eL (tLs tP) p.ga2) :: ((.fn 51 []) :: (ra 5 ((i p.is7) :: ((i s.is8) :: (ra 10 [])))))), []⟩
noncomputable def A0 {α : Type} (k : l4 → α) (e : Nat → α) (z : α) (p : D5) (s : l4) : α := let t1 := (qa8 (rt tP (gL (tLs tP) p.ga2 s.is8.toNat))); (sl (decide (s.is8 < p.is7)) (sl (inB s.is8 (List.length p.ga2)) (sl (okE tP (gL (tLs tP) p.ga2 s.is8.toNat)) (sl (qa9 (rt tP (gL (tLs tP) p.ga2 s.is8.toNat))) (sl t1 (e 1) (k ⟨(W (s.is8 + 1))⟩)) z) z) z) (e 2))
noncomputable def C3 (p : D5) (s : l4) : Stp l4 := A0 .next .exit .fail p s
noncomputable def R8 : Lo D5 l4 := ⟨En ha8, 0, nd0, [1, 0, 1, 4, 4], [0, 1, 7, 8], .p, [⟨((.s (.c 1 (nL (tLs tP)))) :: ((.s (.o (.fn 51))) :: (ru2 5 ((.s (.o (.int .i64))) :: ((.s (.o (.int .i64))) :: (ru2 10 [])))))), [], fun a H => (⟨(rL (tLs tP) (slT a 0)), (toI (slT a 7))⟩, ⟨(toI (slT a 8))⟩)⟩], C3, [(none, fun p s => ⟨[(i s.is8)], []⟩), (some 0, fun p s => ⟨((eL (tLs tP) p.ga2) :: ((.fn 51 []) :: (ra 5 ((i p.is7) :: ((i s.is8) :: ((b (decide (s.is8 < p.is7))) :: (ra 9 []))))))), []⟩)], za4⟩
theorem za5 : R8.Ok := Lo.ok [] (by kernel_rfl) .nil rfl (.cons (fun a H => by kernel_rfl) .nil) fun p s => (.of @A0 (fun F _ _ _ _ _ => by unfold A0; (repeat' apply B7 (f := F)) <;> rfl) (by kernel_rfl))
structure K9 where
 alt : Nat
 is0 : Int
noncomputable def A7 {α : Type} (kk : K9 → α) (x : K8) : α := let t1 := (lp (C3 (⟨(rt (tLs tP) x.ga2), (↑(List.length x.ga2) : Int)⟩ : D5)) (⟨0⟩ : l4)); (sl ((cnE (tLs tP) x.ga2) && true) (sl (Nat.beq t1.1 1) (kk ⟨1, t1.2.is8⟩) (sl (Nat.beq t1.1 2) (kk ⟨1, (-1)⟩) (kk ⟨0, 0⟩))) (kk ⟨0, 0⟩))
noncomputable def W5 (x : K8) : K9 := A7 (fun r => r) x
noncomputable def U2 (x : K8) (r : K9) : DT (a7 × List a8) := (.ite (Nat.beq r.alt 1) (.ret ((i r.is0), [])) .fail)
theorem Ia6 {α β : Type} (F : α → β) (kk : K9 → α) (x : K8) : F (A7 kk x) = A7 (fun r => F (kk r)) x := by unfold A7; (repeat' apply B7 (f := F)) <;> rfl
noncomputable def ka0 : Sum := La8 ⟨[(.s (.c 1 (nL (tLs tP)))), (.s (.o (.fn 51)))], [], fun a H => (⟨(rL (tLs tP) (slT a 0))⟩, ())⟩ (fun x => U2 x (W5 x))
theorem Fa9 : j6 prog G 70 ka0 := P4 (enc := fun x => ⟨[(eL (tLs tP) x.ga2), (.fn 51 [])], []⟩) (fun a H => by kernel_rfl) (bd b70 Ca4) fun x => gb2 (.s .p (.s (.s .p (.b (.u R8.ls))) .p)) [R8.pr] (by kernel_rfl) (.cons za5 .nil) (Eq.trans (b := A7 (fun r => (U2 x r).run) x) (by kernel_rfl) (Ia6 (fun r => (U2 x r).run) (fun r => r) x).symm)
structure H6 where
 ga2 : List (List Pln)
noncomputable def wa8 : List (Nat × Sum) := [(70, ka0)]
theorem ua2 : o8 prog G wa8 := ⟨Fa9, trivial⟩
structure H7 where
 alt : Nat
 bs0 : Bool
noncomputable def v6 {α : Type} (kk : H7 → α) (x : H6) : α := let t1 := (W5 ⟨(rt (tLs tP) x.ga2)⟩); (sl ((cnE (tLs tP) x.ga2) && true) (sl (Nat.beq t1.alt 1) (kk ⟨1, (decide (t1.is0 ≥ 0))⟩) (kk ⟨0, false⟩)) (kk ⟨0, false⟩))
noncomputable def Q0 (x : H6) : H7 := v6 (fun r => r) x
noncomputable def O5 (x : H6) (r : H7) : DT (a7 × List a8) := (.ite (Nat.beq r.alt 1) (.ret ((b r.bs0), [])) .fail)
theorem za6 {α β : Type} (F : α → β) (kk : H7 → α) (x : H6) : F (v6 kk x) = v6 (fun r => F (kk r)) x := by unfold v6; (repeat' apply B7 (f := F)) <;> rfl
noncomputable def ea0 : Sum := La8 ⟨[(.s (.c 1 (nL (tLs tP)))), (.s (.o (.fn 51)))], [], fun a H => (⟨(rL (tLs tP) (slT a 0))⟩, ())⟩ (fun x => O5 x (Q0 x))
theorem wa9 : j6 prog G 50 ea0 := P4 (enc := fun x => ⟨[(eL (tLs tP) x.ga2), (.fn 51 [])], []⟩) (fun a H => by kernel_rfl) (bd b50 ua2) fun x => I7 (Eq.trans (b := v6 (fun r => (O5 x r).run) x) (by kernel_rfl) (za6 (fun r => (O5 x r).run) (fun r => r) x).symm)
noncomputable def Pb9 : List (Nat × Sum) := [(50, ea0)]
theorem Kb9 : o8 prog G Pb9 := ⟨wa9, trivial⟩
noncomputable def ra0 (x : List (List Pln)) : Option (a7 × List a8) := let t1 := (Q0 ⟨(rt (tLs tP) x)⟩); (sl ((cnE (tLs tP) x) && true) (sl (Nat.beq t1.alt 1) (some ((b (!t1.bs0)), [])) none) none)
noncomputable def R9 (x : List (List Pln)) : Bool := la0 (one r1B) (ra0 x)
noncomputable def S1 (x : List (List Pln)) : Bool := okO (one r1B) (ra0 x)
noncomputable def ja6 : Sum := va8 (Ea9 (tLs tP)) (fun x => .guard (S1 x) (.ret ((one r1B).enc (R9 x), [])))
theorem ma0 : j6 prog G 26 ja6 := gb0 (bd b26 Kb9) (one r1B) (o := ra0) fun x => I7 (by kernel_rfl)
structure S3 where
 Ba3 : Int
 Ba4 : Int
 Ba5 : Int
 Ha3 : Int
 w7 : Int
 o7 : Int
 w8 : Int
 c7 : Int
noncomputable def Pa1 : List (Nat × Sum) := [(32, Ka8)]
theorem Na0 : o8 prog G Pa1 := ⟨Sa3, trivial⟩
structure J9 where
 bs0 : Bool
noncomputable def K0 {α : Type} (kk : J9 → α) (x : S3) : α := let t1 := (ca8 (⟨(⟨x.w7, x.o7, x.w8⟩ : V3), x.c7⟩ : Pln) (⟨x.Ba3, x.Ba4, x.Ba5, x.Ha3⟩ : Pt)); (kk ⟨(decide (t1 > 0))⟩)
noncomputable def da3 (x : S3) : J9 := K0 (fun r => r) x
noncomputable def ba7 (x : S3) (r : J9) : DT (a7 × List a8) := .ret ((b r.bs0), [⟨0, 4, [[(i x.w7), (i x.o7), (i x.w8), (i x.c7)]], true, false, 0⟩])
theorem Ta1 {α β : Type} (F : α → β) (kk : J9 → α) (x : S3) : F (K0 kk x) = K0 (fun r => F (kk r)) x := by unfold K0; (repeat' apply B7 (f := F)) <;> rfl
noncomputable def ra1 : Sum := La8 ⟨[(.agg [(.o (.int .i64)), (.o (.int .i64)), (.o (.int .i64)), (.o (.int .i64))]), (.s (.o (.ptr 0 0 0 0)))], [⟨0, 4, true, (some [[(.o (.int .i64)), (.o (.int .i64)), (.o (.int .i64)), (.o (.int .i64))]])⟩], fun a H => (⟨(toI (slT (cellsOf (slT a 0)) 0)), (toI (slT (cellsOf (slT a 0)) 1)), (toI (slT (cellsOf (slT a 0)) 2)), (toI (slT (cellsOf (slT a 0)) 3)), (toI (slT (rwT (elT H 0) 0) 0)), (toI (slT (rwT (elT H 0) 0) 1)), (toI (slT (rwT (elT H 0) 0) 2)), (toI (slT (rwT (elT H 0) 0) 3))⟩, ())⟩ (fun x => ba7 x (da3 x))
theorem Pa2 : j6 prog G 60 ra1 := P4 (enc := fun x => ⟨[(.agg [(i x.Ba3), (i x.Ba4), (i x.Ba5), (i x.Ha3)]), (.ptr 0 0 0 0)], [⟨0, 4, [[(i x.w7), (i x.o7), (i x.w8), (i x.c7)]], true, false, 0⟩]⟩) (fun a H => by kernel_rfl) (bd b60 Na0) fun x => I7 (Eq.trans (b := K0 (fun r => (ba7 x r).run) x) (by kernel_rfl) (Ta1 (fun r => (ba7 x r).run) (fun r => r) x).symm)
structure N4 where
 F7 : List Pt
 w7 : Int
 o7 : Int
 w8 : Int
 c7 : Int
noncomputable def ka1 : List (Nat × Sum) := [(60, ra1)]
theorem Ga0 : o8 prog G ka1 := ⟨Pa2, trivial⟩
structure E5 where
 F7 : List Pt
 is7 : Int
 w7 : Int
 o7 : Int
 w8 : Int
 c7 : Int
structure m0 where
 is8 : Int
noncomputable def Ca5 (p : E5) (s : m0) : St := ⟨((eL tX p.F7) :: ((.fn 60 [(.ptr 0 0 0 0)]) :: (ra 5 ((i p.is7) :: ((i s.is8) :: (ra 10 [])))))), [⟨0, 4, [[(i p.w7), (i p.o7), (i p.w8), (i p.c7)]], true, false, 0⟩]⟩
noncomputable def C5 {α : Type} (k : m0 → α) (e : Nat → α) (z : α) (p : E5) (s : m0) : α := let t1 := (da3 ⟨(gL tX p.F7 s.is8.toNat).px, (gL tX p.F7 s.is8.toNat).py, (gL tX p.F7 s.is8.toNat).pz, (gL tX p.F7 s.is8.toNat).pw, p.w7, p.o7, p.w8, p.c7⟩); (sl (decide (s.is8 < p.is7)) (sl (inB s.is8 (List.length p.F7)) (sl t1.bs0 (e 1) (k ⟨(W (s.is8 + 1))⟩)) z) (e 2))
noncomputable def D6 (p : E5) (s : m0) : Stp m0 := C5 .next .exit .fail p s
noncomputable def U3 : Lo E5 m0 := ⟨En ka1, 1, gd2, [1, 0, 1, 4, 4], [0, 1, 7, 8], .p, [⟨((.s (.c 4 (nL tX))) :: ((.fn 60 [(.o (.ptr 0 0 0 0))]) :: (ru2 5 ((.s (.o (.int .i64))) :: ((.s (.o (.int .i64))) :: (ru2 10 [])))))), [⟨0, 4, true, (some [[(.o (.int .i64)), (.o (.int .i64)), (.o (.int .i64)), (.o (.int .i64))]])⟩], fun a H => (⟨(rL tX (slT a 0)), (toI (slT a 7)), (toI (slT (rwT (elT H 0) 0) 0)), (toI (slT (rwT (elT H 0) 0) 1)), (toI (slT (rwT (elT H 0) 0) 2)), (toI (slT (rwT (elT H 0) 0) 3))⟩, ⟨(toI (slT a 8))⟩)⟩], D6, [(none, fun p s => ⟨[(i s.is8)], [⟨0, 4, [[(i p.w7), (i p.o7), (i p.w8), (i p.c7)]], true, false, 0⟩]⟩), (some 0, fun p s => ⟨((eL tX p.F7) :: ((.fn 60 [(.ptr 0 0 0 0)]) :: (ra 5 ((i p.is7) :: ((i s.is8) :: ((b (decide (s.is8 < p.is7))) :: (ra 9 []))))))), [⟨0, 4, [[(i p.w7), (i p.o7), (i p.w8), (i p.c7)]], true, false, 0⟩]⟩)], Ca5⟩
theorem Ca6 : U3.Ok := Lo.ok [] (by kernel_rfl) .nil rfl (.cons (fun a H => by kernel_rfl) .nil) fun p s => (.of @C5 (fun F _ _ _ _ _ => by unfold C5; (repeat' apply B7 (f := F)) <;> rfl) (by kernel_rfl))
structure N5 where
 alt : Nat
 is0 : Int
noncomputable def D0 {α : Type} (kk : N5 → α) (x : N4) : α := let t1 := (lp (D6 (⟨(rt tX x.F7), (↑(List.length x.F7) : Int), x.w7, x.o7, x.w8, x.c7⟩ : E5)) (⟨0⟩ : m0)); (sl ((cnE tX x.F7) && true) (sl (Nat.beq t1.1 1) (kk ⟨1, t1.2.is8⟩) (sl (Nat.beq t1.1 2) (kk ⟨1, (-1)⟩) (kk ⟨0, 0⟩))) (kk ⟨0, 0⟩))
noncomputable def Y9 (x : N4) : N5 := D0 (fun r => r) x
noncomputable def W6 (x : N4) (r : N5) : DT (a7 × List a8) := (.ite (Nat.beq r.alt 1) (.ret ((i r.is0), [⟨0, 4, [[(i x.w7), (i x.o7), (i x.w8), (i x.c7)]], true, false, 0⟩])) .fail)
theorem Na1 {α β : Type} (F : α → β) (kk : N5 → α) (x : N4) : F (D0 kk x) = D0 (fun r => F (kk r)) x := by unfold D0; (repeat' apply B7 (f := F)) <;> rfl
noncomputable def ma1 : Sum := La8 ⟨[(.s (.c 4 (nL tX))), (.fn 60 [(.o (.ptr 0 0 0 0))])], [⟨0, 4, true, (some [[(.o (.int .i64)), (.o (.int .i64)), (.o (.int .i64)), (.o (.int .i64))]])⟩], fun a H => (⟨(rL tX (slT a 0)), (toI (slT (rwT (elT H 0) 0) 0)), (toI (slT (rwT (elT H 0) 0) 1)), (toI (slT (rwT (elT H 0) 0) 2)), (toI (slT (rwT (elT H 0) 0) 3))⟩, ())⟩ (fun x => W6 x (Y9 x))
theorem Ia7 : j6 prog G 61 ma1 := P4 (enc := fun x => ⟨[(eL tX x.F7), (.fn 60 [(.ptr 0 0 0 0)])], [⟨0, 4, [[(i x.w7), (i x.o7), (i x.w8), (i x.c7)]], true, false, 0⟩]⟩) (fun a H => by kernel_rfl) (bd b61 Ga0) fun x => gb2 (.s .p (.s (.s .p (.b (.u U3.ls))) .p)) [U3.pr] (by kernel_rfl) (.cons Ca6 .nil) (Eq.trans (b := D0 (fun r => (W6 x r).run) x) (by kernel_rfl) (Na1 (fun r => (W6 x r).run) (fun r => r) x).symm)
structure J1 where
 F7 : List Pt
 w7 : Int
 o7 : Int
 w8 : Int
 c7 : Int
noncomputable def za7 : List (Nat × Sum) := [(61, ma1)]
theorem xa0 : o8 prog G za7 := ⟨Ia7, trivial⟩
structure J2 where
 alt : Nat
 bs0 : Bool
noncomputable def y6 {α : Type} (kk : J2 → α) (x : J1) : α := let t1 := (Y9 ⟨(rt tX x.F7), x.w7, x.o7, x.w8, x.c7⟩); (sl ((cnE tX x.F7) && true) (sl (Nat.beq t1.alt 1) (kk ⟨1, (decide (t1.is0 ≥ 0))⟩) (kk ⟨0, false⟩)) (kk ⟨0, false⟩))
noncomputable def S4 (x : J1) : J2 := y6 (fun r => r) x
noncomputable def Q1 (x : J1) (r : J2) : DT (a7 × List a8) := (.ite (Nat.beq r.alt 1) (.ret ((b r.bs0), [⟨0, 4, [[(i x.w7), (i x.o7), (i x.w8), (i x.c7)]], true, false, 0⟩])) .fail)
theorem Ca7 {α β : Type} (F : α → β) (kk : J2 → α) (x : J1) : F (y6 kk x) = y6 (fun r => F (kk r)) x := by unfold y6; (repeat' apply B7 (f := F)) <;> rfl
noncomputable def ga4 : Sum := La8 ⟨[(.s (.c 4 (nL tX))), (.fn 60 [(.o (.ptr 0 0 0 0))])], [⟨0, 4, true, (some [[(.o (.int .i64)), (.o (.int .i64)), (.o (.int .i64)), (.o (.int .i64))]])⟩], fun a H => (⟨(rL tX (slT a 0)), (toI (slT (rwT (elT H 0) 0) 0)), (toI (slT (rwT (elT H 0) 0) 1)), (toI (slT (rwT (elT H 0) 0) 2)), (toI (slT (rwT (elT H 0) 0) 3))⟩, ())⟩ (fun x => Q1 x (S4 x))
theorem za8 : j6 prog G 37 ga4 := P4 (enc := fun x => ⟨[(eL tX x.F7), (.fn 60 [(.ptr 0 0 0 0)])], [⟨0, 4, [[(i x.w7), (i x.o7), (i x.w8), (i x.c7)]], true, false, 0⟩]⟩) (fun a H => by kernel_rfl) (bd b37 xa0) fun x => I7 (Eq.trans (b := y6 (fun r => (Q1 x r).run) x) (by kernel_rfl) (Ca7 (fun r => (Q1 x r).run) (fun r => r) x).symm)
structure X9 where
 Ba3 : Int
 Ba4 : Int
 Ba5 : Int
 Ha3 : Int
 i8 : List Pt
noncomputable def Wa2 : List (Nat × Sum) := [(37, ga4)]
theorem Ta2 : o8 prog G Wa2 := ⟨za8, trivial⟩
structure O6 where
 alt : Nat
 bs0 : Bool
noncomputable def I9 {α : Type} (kk : O6 → α) (x : X9) : α := let t1 := (S4 ⟨(rt tX x.i8), x.Ba3, x.Ba4, x.Ba5, x.Ha3⟩); (sl ((cnE tX x.i8) && true) (sl (Nat.beq t1.alt 1) (kk ⟨1, (!t1.bs0)⟩) (kk ⟨0, false⟩)) (kk ⟨0, false⟩))
noncomputable def Y0 (x : X9) : O6 := I9 (fun r => r) x
noncomputable def ga0 (x : X9) (r : O6) : DT (a7 × List a8) := (.ite (Nat.beq r.alt 1) (.ret ((b r.bs0), [⟨0, 1, [[(eL tX x.i8)]], true, false, 0⟩])) .fail)
theorem bb7 {α β : Type} (F : α → β) (kk : O6 → α) (x : X9) : F (I9 kk x) = I9 (fun r => F (kk r)) x := by unfold I9; (repeat' apply B7 (f := F)) <;> rfl
noncomputable def xa1 : Sum := La8 ⟨[(.agg [(.o (.int .i64)), (.o (.int .i64)), (.o (.int .i64)), (.o (.int .i64))]), (.s (.o (.ptr 0 0 0 0)))], [⟨0, 1, true, (some [[(.c 4 (nL tX))]])⟩], fun a H => (⟨(toI (slT (cellsOf (slT a 0)) 0)), (toI (slT (cellsOf (slT a 0)) 1)), (toI (slT (cellsOf (slT a 0)) 2)), (toI (slT (cellsOf (slT a 0)) 3)), (rL tX (slT (rwT (elT H 0) 0) 0))⟩, ())⟩ (fun x => ga0 x (Y0 x))
theorem Wa3 : j6 prog G 59 xa1 := P4 (enc := fun x => ⟨[(.agg [(i x.Ba3), (i x.Ba4), (i x.Ba5), (i x.Ha3)]), (.ptr 0 0 0 0)], [⟨0, 1, [[(eL tX x.i8)]], true, false, 0⟩]⟩) (fun a H => by kernel_rfl) (bd b59 Ta2) fun x => I7 (Eq.trans (b := I9 (fun r => (ga0 x r).run) x) (by kernel_rfl) (bb7 (fun r => (ga0 x r).run) (fun r => r) x).symm)
structure L0 where
 u9 : List Pln
 i8 : List Pt
noncomputable def ha9 : List (Nat × Sum) := [(59, xa1)]
theorem Ca8 : o8 prog G ha9 := ⟨Wa3, trivial⟩
structure D7 where
 u9 : List Pln
 is7 : Int
structure l5 where
 is8 : Int
 i8 : List Pt
noncomputable def za9 (p : D7) (s : l5) : St := ⟨((eL tP p.u9) :: ((.fn 59 [(.ptr 0 0 0 0)]) :: (ra 5 ((i p.is7) :: ((i s.is8) :: (ra 10 [])))))), [⟨0, 1, [[(eL tX s.i8)]], true, false, 0⟩]⟩
noncomputable def A1 {α : Type} (k : l5 → α) (e : Nat → α) (z : α) (p : D7) (s : l5) : α := let t1 := (Y0 ⟨(gL tP p.u9 s.is8.toNat).n.x, (gL tP p.u9 s.is8.toNat).n.y, (gL tP p.u9 s.is8.toNat).n.z, (gL tP p.u9 s.is8.toNat).b, (rt tX s.i8)⟩); (sl (decide (s.is8 < p.is7)) (sl (inB s.is8 (List.length p.u9)) (sl ((cnE tX s.i8) && true) (sl (Nat.beq t1.alt 1) (sl t1.bs0 (e 1) (k ⟨(W (s.is8 + 1)), (rt tX s.i8)⟩)) z) z) z) (e 2))
noncomputable def C6 (p : D7) (s : l5) : Stp l5 := A1 .next .exit .fail p s
noncomputable def S5 : Lo D7 l5 := ⟨En ha9, 1, nd2, [1, 0, 1, 4, 4], [0, 1, 7, 8], .p, [⟨((.s (.c 4 (nL tP))) :: ((.fn 59 [(.o (.ptr 0 0 0 0))]) :: (ru2 5 ((.s (.o (.int .i64))) :: ((.s (.o (.int .i64))) :: (ru2 10 [])))))), [⟨0, 1, true, (some [[(.c 4 (nL tX))]])⟩], fun a H => (⟨(rL tP (slT a 0)), (toI (slT a 7))⟩, ⟨(toI (slT a 8)), (rL tX (slT (rwT (elT H 0) 0) 0))⟩)⟩], C6, [(none, fun p s => ⟨[(i s.is8)], [⟨0, 1, [[(eL tX (rt tX s.i8))]], true, false, 0⟩]⟩), (some 0, fun p s => ⟨((eL tP p.u9) :: ((.fn 59 [(.ptr 0 0 0 0)]) :: (ra 5 ((i p.is7) :: ((i s.is8) :: ((b (decide (s.is8 < p.is7))) :: (ra 9 []))))))), [⟨0, 1, [[(eL tX s.i8)]], true, false, 0⟩]⟩)], za9⟩
theorem Aa0 : S5.Ok := Lo.ok [] (by kernel_rfl) .nil rfl (.cons (fun a H => by kernel_rfl) .nil) fun p s => (.of @A1 (fun F _ _ _ _ _ => by unfold A1; (repeat' apply B7 (f := F)) <;> rfl) (by kernel_rfl))
structure L1 where
 alt : Nat
 is0 : Int
 i8 : List Pt
noncomputable def A8 {α : Type} (kk : L1 → α) (x : L0) : α := let t1 := (lp (C6 (⟨(rt tP x.u9), (↑(List.length x.u9) : Int)⟩ : D7)) (⟨0, (rt tX x.i8)⟩ : l5)); (sl ((cnE tP x.u9) && ((cnE tX x.i8) && true)) (sl (Nat.beq t1.1 1) (kk ⟨1, t1.2.is8, (rt tX t1.2.i8)⟩) (sl (Nat.beq t1.1 2) (kk ⟨1, (-1), t1.2.i8⟩) (kk ⟨0, 0, []⟩))) (kk ⟨0, 0, []⟩))
noncomputable def W7 (x : L0) : L1 := A8 (fun r => r) x
noncomputable def U4 (x : L0) (r : L1) : DT (a7 × List a8) := (.ite (Nat.beq r.alt 1) (.ret ((i r.is0), [⟨0, 1, [[(eL tX r.i8)]], true, false, 0⟩])) .fail)
theorem Ia8 {α β : Type} (F : α → β) (kk : L1 → α) (x : L0) : F (A8 kk x) = A8 (fun r => F (kk r)) x := by unfold A8; (repeat' apply B7 (f := F)) <;> rfl
noncomputable def ka2 : Sum := La8 ⟨[(.s (.c 4 (nL tP))), (.fn 59 [(.o (.ptr 0 0 0 0))])], [⟨0, 1, true, (some [[(.c 4 (nL tX))]])⟩], fun a H => (⟨(rL tP (slT a 0)), (rL tX (slT (rwT (elT H 0) 0) 0))⟩, ())⟩ (fun x => U4 x (W7 x))
theorem Ga1 : j6 prog G 85 ka2 := P4 (enc := fun x => ⟨[(eL tP x.u9), (.fn 59 [(.ptr 0 0 0 0)])], [⟨0, 1, [[(eL tX x.i8)]], true, false, 0⟩]⟩) (fun a H => by kernel_rfl) (bd b85 Ca8) fun x => gb2 (.s .p (.s (.s .p (.b (.u S5.ls))) .p)) [S5.pr] (by kernel_rfl) (.cons Aa0 .nil) (Eq.trans (b := A8 (fun r => (U4 x r).run) x) (by kernel_rfl) (Ia8 (fun r => (U4 x r).run) (fun r => r) x).symm)
structure H8 where
 u9 : List Pln
 i8 : List Pt
noncomputable def xa2 : List (Nat × Sum) := [(85, ka2)]
theorem ua3 : o8 prog G xa2 := ⟨Ga1, trivial⟩
structure H9 where
 alt : Nat
 bs0 : Bool
 i8 : List Pt
noncomputable def v7 {α : Type} (kk : H9 → α) (x : H8) : α := let t1 := (W7 ⟨(rt tP x.u9), (rt tX x.i8)⟩); (sl ((cnE tP x.u9) && ((cnE tX x.i8) && true)) (sl (Nat.beq t1.alt 1) (kk ⟨1, (decide (t1.is0 ≥ 0)), t1.i8⟩) (kk ⟨0, false, []⟩)) (kk ⟨0, false, []⟩))
noncomputable def Q3 (x : H8) : H9 := v7 (fun r => r) x
noncomputable def O7 (x : H8) (r : H9) : DT (a7 × List a8) := (.ite (Nat.beq r.alt 1) (.ret ((b r.bs0), [⟨0, 1, [[(eL tX r.i8)]], true, false, 0⟩])) .fail)
theorem Aa1 {α β : Type} (F : α → β) (kk : H9 → α) (x : H8) : F (v7 kk x) = v7 (fun r => F (kk r)) x := by unfold v7; (repeat' apply B7 (f := F)) <;> rfl
noncomputable def ea1 : Sum := La8 ⟨[(.s (.c 4 (nL tP))), (.fn 59 [(.o (.ptr 0 0 0 0))])], [⟨0, 1, true, (some [[(.c 4 (nL tX))]])⟩], fun a H => (⟨(rL tP (slT a 0)), (rL tX (slT (rwT (elT H 0) 0) 0))⟩, ())⟩ (fun x => O7 x (Q3 x))
theorem xa3 : j6 prog G 58 ea1 := P4 (enc := fun x => ⟨[(eL tP x.u9), (.fn 59 [(.ptr 0 0 0 0)])], [⟨0, 1, [[(eL tX x.i8)]], true, false, 0⟩]⟩) (fun a H => by kernel_rfl) (bd b58 ua3) fun x => I7 (Eq.trans (b := v7 (fun r => (O7 x r).run) x) (by kernel_rfl) (Aa1 (fun r => (O7 x r).run) (fun r => r) x).symm)
noncomputable def gb3 : List (Nat × Sum) := [(28, fa9), (58, ea1)]
theorem bb8 : o8 prog G gb3 := ⟨qa0, xa3, trivial⟩
noncomputable def U5 (x : List Pln) : Option (a7 × List a8) := let t1 := (M2 (rt tP x)); let t2 := (Q3 ⟨(rt tP x), (rt tX t1)⟩); (sl (okE tP x) (sl (M3 (rt tP x)) (sl ((cnE tP x) && ((cnE tX t1) && true)) (sl (Nat.beq t2.alt 1) (some ((b (!t2.bs0)), [])) none) none) none) none)
noncomputable def U9 (x : List Pln) : Bool := la0 (one r1B) (U5 x)
noncomputable def V0 (x : List Pln) : Bool := okO (one r1B) (U5 x)
noncomputable def na8 : Sum := va8 (Ea9 tP) (fun x => .guard (V0 x) (.ret ((one r1B).enc (U9 x), [])))
theorem Ba2 : j6 prog G 36 na8 := gb0 (bd b36 bb8) (one r1B) (o := U5) fun x => I7 (by kernel_rfl)
noncomputable def Lb0 : List (Nat × Sum) := [(26, ja6), (27, eb9), (28, fa9)]
theorem Bb6 : o8 prog G Lb0 := ⟨ma0, lb7, qa0, trivial⟩
noncomputable def ma2 (x : List Pln) : Option (a7 × List a8) := let t1 := (R9 [(rt tP x)]); let t2 := (ua0 [(rt tP x)]); let t3 := (M2 (rt tP t2)); (sl ((okE tP x) && true) (sl (S1 [(rt tP x)]) (sl (!t1) (some ((.v (.slice none 0 0)), [])) (sl ((okE tP x) && true) (sl (ua1 [(rt tP x)]) (sl (okE tP t2) (sl (M3 (rt tP t2)) (some ((eL tX t3), [])) none) none) none) none)) none) none)
noncomputable def N6 (x : List Pln) : List Pt := la0 (one (r1L tX)) (ma2 x)
noncomputable def N7 (x : List Pln) : Bool := okO (one (r1L tX)) (ma2 x)
noncomputable def fa2 : Sum := va8 (Ea9 tP) (fun x => .guard (N7 x) (.ret ((one (r1L tX)).enc (N6 x), [])))
theorem ia0 : j6 prog G 9 fa2 := gb0 (bd b9 Bb6) (one (r1L tX)) (o := ma2) fun x => I7 (by kernel_rfl)
noncomputable def ac8 : List (Nat × Sum) := [(26, ja6), (27, eb9), (36, na8)]
theorem Qb0 : o8 prog G ac8 := ⟨ma0, lb7, Ba2, trivial⟩
noncomputable def xa4 (x : List Pln) : Option (a7 × List a8) := let t1 := (R9 [(rt tP x)]); let t2 := (ua0 [(rt tP x)]); let t3 := (U9 (rt tP t2)); (sl ((okE tP x) && true) (sl (S1 [(rt tP x)]) (sl t1 (sl ((okE tP x) && true) (sl (ua1 [(rt tP x)]) (sl (okE tP t2) (sl (V0 (rt tP t2)) (some ((b t3), [])) none) none) none) none) (some ((b false), []))) none) none)
noncomputable def ca9 (x : List Pln) : Bool := la0 (one r1B) (xa4 x)
noncomputable def da0 (x : List Pln) : Bool := okO (one r1B) (xa4 x)
noncomputable def xa5 : Sum := va8 (Ea9 tP) (fun x => .guard (da0 x) (.ret ((one r1B).enc (ca9 x), [])))
theorem Ca9 : j6 prog G 20 xa5 := gb0 (bd b20 Qb0) (one r1B) (o := xa4) fun x => I7 (by kernel_rfl)
noncomputable def Qb1 : List (Nat × Sum) := []
theorem Lb1 : o8 prog G Qb1 := trivial
noncomputable def ra2 (x : Int) (y : Int) : Option (a7 × List a8) := (sl (y == 0) none (sl (y == 0) none (sl (decide ((Int.tmod x y) < 0)) (some ((i (W ((W (Int.tdiv x y)) - 1))), [])) (some ((i (W (Int.tdiv x y))), [])))))
noncomputable def S6 (x : Int) (y : Int) : Int := la0 (one r1I) (ra2 x y)
noncomputable def S7 (x : Int) (y : Int) : Bool := okO (one r1I) (ra2 x y)
noncomputable def rb2 : Sum := va9 cI cI (fun x y => .guard (S7 x y) (.ret ((one r1I).enc (S6 x y), [])))
theorem Qb2 : j6 prog G 25 rb2 := Ib7 (bd b25 Lb1) (one r1I) (o := ra2) fun x y => I7 (by kernel_rfl)
noncomputable def ib8 : List (Nat × Sum) := [(20, xa5), (24, Sa2), (9, fa2), (25, rb2)]
theorem Lb2 : o8 prog G ib8 := ⟨Ca9, ib4, ia0, Qb2, trivial⟩
structure ia1 where
 M9 : List Pt
 ad3 : Int
structure O8 where
 V7 : Int
 aa0 : Int
 aa1 : Int
 aa2 : Int
 tb7 : Int
 tb8 : Int
 tb9 : Int
noncomputable def Bb7 (p : ia1) (s : O8) : St := ⟨(.unk :: (.unk :: ((.ptr 0 0 0 0) :: ((.ptr 1 0 0 0) :: (.unk :: ((.ptr 2 0 0 0) :: ((.ptr 3 0 0 0) :: (ra 11 ((eL tX p.M9) :: ((i p.ad3) :: ((i s.V7) :: (ra 62 [])))))))))))), [⟨0, 3, [[(i 0), (i 0), (i 0)]], true, false, 0⟩, ⟨0, 3, [[(i 0), (i 0), (i 0)]], true, false, 0⟩, ⟨0, 3, [[(i s.aa0), (i s.aa1), (i s.aa2)]], true, false, 0⟩, ⟨0, 3, [[(i s.tb7), (i s.tb8), (i s.tb9)]], true, false, 0⟩]⟩
noncomputable def ba8 {α : Type} (k : O8 → α) (e : Nat → α) (z : α) (p : ia1) (s : O8) : α := let t1 := (S6 (gL tX p.M9 s.V7.toNat).px (gL tX p.M9 s.V7.toNat).pw); let t2 := (S6 (gL tX p.M9 s.V7.toNat).py (gL tX p.M9 s.V7.toNat).pw); let t3 := (S6 (gL tX p.M9 s.V7.toNat).pz (gL tX p.M9 s.V7.toNat).pw); let t4 := (S6 (W (0 - (gL tX p.M9 s.V7.toNat).px)) (gL tX p.M9 s.V7.toNat).pw); let t5 := (S6 (W (0 - (gL tX p.M9 s.V7.toNat).py)) (gL tX p.M9 s.V7.toNat).pw); let t6 := (S6 (W (0 - (gL tX p.M9 s.V7.toNat).pz)) (gL tX p.M9 s.V7.toNat).pw); (sl (decide (s.V7 < p.ad3)) (sl (inB s.V7 (List.length p.M9)) (sl (S7 (gL tX p.M9 s.V7.toNat).px (gL tX p.M9 s.V7.toNat).pw) (sl (S7 (gL tX p.M9 s.V7.toNat).py (gL tX p.M9 s.V7.toNat).pw) (sl (S7 (gL tX p.M9 s.V7.toNat).pz (gL tX p.M9 s.V7.toNat).pw) (sl (S7 (W (0 - (gL tX p.M9 s.V7.toNat).px)) (gL tX p.M9 s.V7.toNat).pw) (sl (S7 (W (0 - (gL tX p.M9 s.V7.toNat).py)) (gL tX p.M9 s.V7.toNat).pw) (sl (S7 (W (0 - (gL tX p.M9 s.V7.toNat).pz)) (gL tX p.M9 s.V7.toNat).pw) (k ⟨(W (s.V7 + 1)), (if t1 < s.aa0 then t1 else s.aa0), (if t2 < s.aa1 then t2 else s.aa1), (if t3 < s.aa2 then t3 else s.aa2), (if (W (0 - t4)) > s.tb7 then (W (0 - t4)) else s.tb7), (if (W (0 - t5)) > s.tb8 then (W (0 - t5)) else s.tb8), (if (W (0 - t6)) > s.tb9 then (W (0 - t6)) else s.tb9)⟩) z) z) z) z) z) z) z) (e 1))
noncomputable def X1 (p : ia1) (s : O8) : Stp O8 := ba8 .next .exit .fail p s
noncomputable def Ga2 : Lo ia1 O8 := ⟨En ib8, 0, pf8, [1, 1, 1, 1, 0, 1, 4, 4], [2, 3, 5, 6, 18, 19, 20], .p, [⟨((.s (.o .unk)) :: ((.s (.o .unk)) :: ((.s (.o (.ptr 0 0 0 0))) :: ((.s (.o (.ptr 1 0 0 0))) :: ((.s (.o .unk)) :: ((.s (.o (.ptr 2 0 0 0))) :: ((.s (.o (.ptr 3 0 0 0))) :: (ru2 11 ((.s (.c 4 (nL tX))) :: ((.s (.o (.int .i64))) :: ((.s (.o (.int .i64))) :: (ru2 62 [])))))))))))), [⟨0, 3, true, (some [[(.o (.lit .i64 0)), (.o (.lit .i64 0)), (.o (.lit .i64 0))]])⟩, ⟨0, 3, true, (some [[(.o (.lit .i64 0)), (.o (.lit .i64 0)), (.o (.lit .i64 0))]])⟩, ⟨0, 3, true, (some [[(.o (.int .i64)), (.o (.int .i64)), (.o (.int .i64))]])⟩, ⟨0, 3, true, (some [[(.o (.int .i64)), (.o (.int .i64)), (.o (.int .i64))]])⟩], fun a H => (⟨(rL tX (slT a 18)), (toI (slT a 19))⟩, ⟨(toI (slT a 20)), (toI (slT (rwT (elT H 2) 0) 0)), (toI (slT (rwT (elT H 2) 0) 1)), (toI (slT (rwT (elT H 2) 0) 2)), (toI (slT (rwT (elT H 3) 0) 0)), (toI (slT (rwT (elT H 3) 0) 1)), (toI (slT (rwT (elT H 3) 0) 2))⟩)⟩], X1, [(some 0, fun p s => ⟨(.unk :: (.unk :: ((.ptr 0 0 0 0) :: ((.ptr 1 0 0 0) :: (.unk :: ((.ptr 2 0 0 0) :: ((.ptr 3 0 0 0) :: (ra 11 ((eL tX p.M9) :: ((i p.ad3) :: ((i s.V7) :: ((b (decide (s.V7 < p.ad3))) :: (ra 61 []))))))))))))), [⟨0, 3, [[(i 0), (i 0), (i 0)]], true, false, 0⟩, ⟨0, 3, [[(i 0), (i 0), (i 0)]], true, false, 0⟩, ⟨0, 3, [[(i s.aa0), (i s.aa1), (i s.aa2)]], true, false, 0⟩, ⟨0, 3, [[(i s.tb7), (i s.tb8), (i s.tb9)]], true, false, 0⟩]⟩)], Bb7⟩
theorem Bb8 : Ga2.Ok := Lo.ok [] (by kernel_rfl) .nil rfl (.cons (fun a H => by kernel_rfl) .nil) fun p s => (.of @ba8 (fun F _ _ _ _ _ => by unfold ba8; (repeat' apply B7 (f := F)) <;> rfl) (by kernel_rfl))
noncomputable def ra3 (x : List Pln) : Option (a7 × List a8) := let t1 := (ca9 (rt tP x)); let t2 := (J8 (⟨24, 24, 24⟩ : V3) (-1)); let t3 := (N6 (rt tP x)); let t4 := (lp (X1 (⟨(rt tX t3), (↑(List.length t3) : Int)⟩ : ia1)) (⟨0, 24, 24, 24, t2.x, t2.y, t2.z⟩ : O8)); (sl (okE tP x) (sl (da0 (rt tP x)) (sl (!t1) (some ((.tup [(.agg [(i 0), (i 0), (i 0)]), (.agg [(i 0), (i 0), (i 0)]), (b false)]), [])) (sl (okE tP x) (sl (N7 (rt tP x)) (sl ((cnE tX t3) && true) (sl (Nat.beq t4.1 1) (some ((.tup [(.agg [(i t4.2.aa0), (i t4.2.aa1), (i t4.2.aa2)]), (.agg [(i t4.2.tb7), (i t4.2.tb8), (i t4.2.tb9)]), (b true)]), [])) none) none) none) none)) none) none)
noncomputable def ra4 (x : List Pln) : V3 × V3 × Bool := la0 (ic1 r1V r1V r1B) (ra3 x)
noncomputable def ra5 (x : List Pln) : Bool := okO (ic1 r1V r1V r1B) (ra3 x)
noncomputable def Ta3 : Sum := va8 (Ea9 tP) (fun x => .guard (ra5 x) (.ret ((ic1 r1V r1V r1B).enc (ra4 x), [])))
theorem ib9 : j6 prog G 8 Ta3 := gb0 (bd b8 Lb2) (ic1 r1V r1V r1B) (o := ra3) fun x => gb2 (.s .p (.s .p (.s .p (.s .p (.s (.s .p (.b (.u Ga2.ls))) .p))))) [Ga2.pr] (by kernel_rfl) (.cons Bb8 .nil) (by kernel_rfl)
end Go.Ev.Ce
end
namespace Go.Ev.Ce
open Go Go.Ev Go.Ev.L Go.Proofs
theorem Fc0 (P : ja4) (g n : Int) (hn : n.natAbs ≤ 9223372036854775808) : lp (la6 P) ⟨g, n⟩ = (1, ⟨eu g n, 0⟩) :=
 Uc9 (mk := fun g n => (⟨g, n⟩ : X5)) (fun g n h => by simp [la6, ha1, kb7, h]) (fun g => by simp [la6, ha1, kb7]) g n hn
theorem Fc1 (l : List Int) (hl : l.length ≤ 1000000000) (hb : ∀ x ∈ l, x.natAbs ≤ 9223372036854775808) : lp (fa1 ⟨(l.length : Int)⟩) ⟨0, l, 0⟩ = (1, ⟨l.foldl eu 0, l, l.length⟩) := by
 have := Db8 (step := fa1 ⟨(l.length : Int)⟩) (mk := fun j a => (⟨a, l, (j : Int)⟩ : X6)) (f := eu) (fin := 1) tI l (fun _ _ => True) hl (fun j a hj _ => ⟨by
   simp only [fa1, ha2, Int.toNat_natCast, F9, J7, Fc0 _ _ _ (hb _ (Zb1 tI hj)), M5 hj (by omega)]
   rw [bt (Jb0 hj), bt (q8 hj)]
   rfl, trivial⟩) (fun a _ => by simp [fa1, ha2, kb7]) 0 (Nat.zero_le _) 0 trivial
 simpa using this.1
theorem rb3 : ∀ (l : List Int) (g : Int), (l.foldl eu g).natAbs = l.foldl (fun a x => Nat.gcd a x.natAbs) g.natAbs
 | [], _ => rfl
 | x :: l, g => by rw [List.foldl_cons, rb3 l, List.foldl_cons, Jc9]; rfl
theorem gd5 (l : List Int) (hl : l.length ≤ 1000000000) (hb : ∀ x ∈ l, x.natAbs ≤ 9223372036854775807) (h0 : (l.foldl eu 0).natAbs ≤ 9223372036854775807) : Fa4 l = some (i ((l.foldl eu 0).natAbs : Int), []) := by
 unfold Fa4
 simp only [F9, J7, Fc1 l hl (fun x hx => Nat.le_succ_of_le (hb x hx))]
 generalize l.foldl eu 0 = e at *
 have : W (0 - e) = -e := by rw [Ca1 (by omega) (by omega)]; omega
 rw [this]
 show some (i (if -e > e then -e else e), []) = _
 congr 3
 split <;> omega
noncomputable def rm (p : Pln) (x : Pt) : Int := W (p.b * x.pw - (p.n.x * x.px + p.n.y * x.py + p.n.z * x.pz))
theorem ac9 (p : Pln) (x : Pt) : ca8 p x = rm p x := by
 unfold ca8 oa4 rm
 simp only [Ib9, sc3, Jc5, Jc6]
structure Bd (p : Pln) : Prop where
 x1 : -4608 ≤ p.n.x
 x2 : p.n.x ≤ 4608
 y1 : -4608 ≤ p.n.y
 y2 : p.n.y ≤ 4608
 z1 : -4608 ≤ p.n.z
 z2 : p.n.z ≤ 4608
 b1 : -2097152 ≤ p.b
 b2 : p.b ≤ 2097152
def mv (p q r : Pln) : V3 :=
 ⟨(o4 q.n r.n).x * p.b + (o4 r.n p.n).x * q.b + (o4 p.n q.n).x * r.b,
  (o4 q.n r.n).y * p.b + (o4 r.n p.n).y * q.b + (o4 p.n q.n).y * r.b,
  (o4 q.n r.n).z * p.b + (o4 r.n p.n).z * q.b + (o4 p.n q.n).z * r.b⟩
def gc (v : V3) (w : Int) : Int := (Nat.gcd (Nat.gcd v.x.natAbs v.y.natAbs) (Nat.gcd v.z.natAbs w.natAbs) : Nat)
def mpt (p q r : Pln) : Pt × Bool :=
 if mw p q r = 0 then (⟨0, 0, 0, 0⟩, false)
 else if mw p q r < 0 then (⟨Int.tdiv (-(mv p q r).x) (gc (mv p q r) (mw p q r)), Int.tdiv (-(mv p q r).y) (gc (mv p q r) (mw p q r)), Int.tdiv (-(mv p q r).z) (gc (mv p q r) (mw p q r)), Int.tdiv (-(mw p q r)) (gc (mv p q r) (mw p q r))⟩, true)
 else (⟨Int.tdiv (mv p q r).x (gc (mv p q r) (mw p q r)), Int.tdiv (mv p q r).y (gc (mv p q r) (mw p q r)), Int.tdiv (mv p q r).z (gc (mv p q r) (mw p q r)), Int.tdiv (mw p q r) (gc (mv p q r) (mw p q r))⟩, true)
def Sm (n : Int) (x : Int) : Prop := -n ≤ x ∧ x ≤ n
theorem rb4 {a b : V3} (ha : Sm 4608 a.x ∧ Sm 4608 a.y ∧ Sm 4608 a.z) (hb : Sm 4608 b.x ∧ Sm 4608 b.y ∧ Sm 4608 b.z) : Sm 42467328 (o4 a b).x ∧ Sm 42467328 (o4 a b).y ∧ Sm 42467328 (o4 a b).z := by
 obtain ⟨⟨a1, a2⟩, ⟨a3, a4⟩, a5, a6⟩ := ha
 obtain ⟨⟨b1, b2⟩, ⟨b3, b4⟩, b5, b6⟩ := hb
 have h1 := mb a3 a4 b5 b6; have h2 := mb a5 a6 b3 b4; have h3 := mb a5 a6 b1 b2; have h4 := mb a1 a2 b5 b6; have h5 := mb a1 a2 b3 b4; have h6 := mb a3 a4 b1 b2
 unfold Sm o4
 simp only
 omega
theorem Bd.n {p : Pln} (h : Bd p) : Sm 4608 p.n.x ∧ Sm 4608 p.n.y ∧ Sm 4608 p.n.z := ⟨⟨h.x1, h.x2⟩, ⟨h.y1, h.y2⟩, h.z1, h.z2⟩
theorem bd4 {p q r : Pln} (hp : Bd p) (hq : Bd q) (hr : Bd r) : Sm 600000000000 (mw p q r) := by
 obtain ⟨⟨c1, c2⟩, ⟨c3, c4⟩, c5, c6⟩ := rb4 hq.n hr.n
 have h1 := mb hp.x1 hp.x2 c1 c2; have h2 := mb hp.y1 hp.y2 c3 c4; have h3 := mb hp.z1 hp.z2 c5 c6
 unfold Sm mw dot
 omega
theorem bd5 {p q r : Pln} (hp : Bd p) (hq : Bd q) (hr : Bd r) : Sm 300000000000000 (mv p q r).x ∧ Sm 300000000000000 (mv p q r).y ∧ Sm 300000000000000 (mv p q r).z := by
 obtain ⟨⟨c1, c2⟩, ⟨c3, c4⟩, c5, c6⟩ := rb4 hq.n hr.n
 obtain ⟨⟨d1, d2⟩, ⟨d3, d4⟩, d5, d6⟩ := rb4 hr.n hp.n
 obtain ⟨⟨e1, e2⟩, ⟨e3, e4⟩, e5, e6⟩ := rb4 hp.n hq.n
 have a1 := mb c1 c2 hp.b1 hp.b2; have a2 := mb c3 c4 hp.b1 hp.b2; have a3 := mb c5 c6 hp.b1 hp.b2
 have b1 := mb d1 d2 hq.b1 hq.b2; have b2 := mb d3 d4 hq.b1 hq.b2; have b3 := mb d5 d6 hq.b1 hq.b2
 have f1 := mb e1 e2 hr.b1 hr.b2; have f2 := mb e3 e4 hr.b1 hr.b2; have f3 := mb e5 e6 hr.b1 hr.b2
 unfold Sm mv
 simp only
 omega
theorem Eb1 (a b : V3) : J6 a b = ⟨W (o4 a b).x, W (o4 a b).y, W (o4 a b).z⟩ := by
 unfold J6 o4
 simp only [Jc5, Jc6]
theorem gd6 (p q r : Pln) : dot r.n (o4 p.n q.n) = mw p q r := by unfold mw dot o4; grind
theorem td6 (a b c d : Nat) : [a, b, c, d].foldl Nat.gcd 0 = Nat.gcd (Nat.gcd a b) (Nat.gcd c d) := by
 simp only [List.foldl_cons, List.foldl_nil, Nat.gcd_zero_left]
 rw [Nat.gcd_assoc]
theorem bc0 {v : V3} {w : Int} (h : w ≠ 0) : 0 < gc v w := by
 unfold gc
 have : 0 < Nat.gcd v.z.natAbs w.natAbs := Nat.gcd_pos_of_pos_right _ (by omega)
 have := Nat.gcd_pos_of_pos_right (Nat.gcd v.x.natAbs v.y.natAbs) this
 omega
theorem bd6 {v : V3} {w : Int} (h : w ≠ 0) : gc v w ≤ w.natAbs := by
 unfold gc
 have h1 : Nat.gcd v.z.natAbs w.natAbs ≤ w.natAbs := Nat.gcd_le_right _ (by omega)
 have h2 : 0 < Nat.gcd v.z.natAbs w.natAbs := Nat.gcd_pos_of_pos_right _ (by omega)
 have h3 := Nat.gcd_le_right (m := Nat.gcd v.x.natAbs v.y.natAbs) (n := Nat.gcd v.z.natAbs w.natAbs) h2
 omega
theorem xb0 {x : Int} (h : Sm 1000000000000000000 x) : W x = x := Ca1 (by have := h.1; omega) (by have := h.2; omega)
theorem Sm.mono {n m x : Int} (h : Sm n x) (hn : n ≤ m) : Sm m x := ⟨by have := h.1; omega, by have := h.2; omega⟩
theorem Y1 {n x g : Int} (h : Sm n x) (hg : 0 < g) : Sm n (Int.tdiv x g) := by
 have h1 : (Int.tdiv x g).natAbs ≤ x.natAbs := by rw [Int.natAbs_tdiv]; exact Nat.div_le_self _ _
 have := h.1; have := h.2
 constructor <;> omega
theorem tc6 {p q r : Pln} (hp : Bd p) (hq : Bd q) (hr : Bd r) (h : (mpt p q r).2 = true) : 0 < (mpt p q r).1.pw ∧ Sm 300000000000000 (mpt p q r).1.px ∧ Sm 300000000000000 (mpt p q r).1.py ∧ Sm 300000000000000 (mpt p q r).1.pz ∧ (mpt p q r).1.pw ≤ 600000000000 := by
 have hw := bd4 hp hq hr
 obtain ⟨v1, v2, v3⟩ := bd5 hp hq hr
 have neg : ∀ {n x : Int}, Sm n x → Sm n (-x) := fun h => ⟨by have := h.2; omega, by have := h.1; omega⟩
 have pos : ∀ {x : Int}, 0 < x → x.natAbs = (mw p q r).natAbs → 0 < Int.tdiv x (gc (mv p q r) (mw p q r)) := fun {x} hx he => by
  have h0 : mw p q r ≠ 0 := by omega
  have h1 := bc0 (v := mv p q r) h0
  have h2 := bd6 (v := mv p q r) h0
  rw [Int.tdiv_eq_ediv_of_nonneg (by omega)]
  exact Int.ediv_pos_of_pos_of_dvd hx (by omega) (by
   rw [← Int.dvd_natAbs, he]
   exact Int.natCast_dvd_natCast.2 (Nat.dvd_trans (Nat.gcd_dvd_right _ _) (Nat.gcd_dvd_right _ _)))
 unfold mpt at h ⊢
 by_cases h0 : mw p q r = 0
 ·rw [if_pos h0] at h; cases h
 ·rw [if_neg h0]
  have hg := bc0 (v := mv p q r) h0
  by_cases h1 : mw p q r < 0
  ·rw [if_pos h1]
   exact ⟨pos (by omega) (by omega), Y1 (neg v1) hg, Y1 (neg v2) hg, Y1 (neg v3) hg, (Y1 (neg hw) hg).2⟩
  ·rw [if_neg h1]
   exact ⟨pos (by omega) rfl, Y1 v1 hg, Y1 v2 hg, Y1 v3 hg, (Y1 hw hg).2⟩
theorem xc8 {p q r : Pln} (hp : Bd p) (hq : Bd q) (hr : Bd r) : wa1 ⟨p, q, r⟩ = some (.tup [.agg (tX.row (mpt p q r).1), b (mpt p q r).2], []) := by
 have hw := bd4 hp hq hr
 obtain ⟨v1, v2, v3⟩ := bd5 hp hq hr
 have e1 : oa4 r.n (J6 p.n q.n) = mw p q r := by
  rw [Eb1]
  unfold oa4
  simp only [Ib9, sc3, fd0]
  show W (dot r.n (o4 p.n q.n)) = _
  rw [gd6, xb0 (hw.mono (by omega))]
 have e2 : G0 (G0 (G0 ⟨0, 0, 0⟩ (J8 (J6 q.n r.n) p.b)) (J8 (J6 r.n p.n) q.b)) (J8 (J6 p.n q.n) r.b) = mv p q r := by
  rw [Eb1, Eb1, Eb1]
  unfold G0 J8
  simp only [Ib9, sc3, Jc7, Int.zero_add]
  show (⟨W (mv p q r).x, W (mv p q r).y, W (mv p q r).z⟩ : V3) = _
  rw [xb0 (v1.mono (by omega)), xb0 (v2.mono (by omega)), xb0 (v3.mono (by omega))]
 unfold wa1
 simp only [e1, e2]
 have hb : ∀ x ∈ [(mv p q r).x, (mv p q r).y, (mv p q r).z, mw p q r], x.natAbs ≤ 9223372036854775807 := by
  intro x hx
  simp only [List.mem_cons, List.not_mem_nil, or_false] at hx
  unfold Sm at *
  rcases hx with rfl | rfl | rfl | rfl <;> omega
 have hf : ([(mv p q r).x, (mv p q r).y, (mv p q r).z, mw p q r].foldl eu 0).natAbs = Nat.gcd (Nat.gcd (mv p q r).x.natAbs (mv p q r).y.natAbs) (Nat.gcd (mv p q r).z.natAbs (mw p q r).natAbs) := by
  rw [rb3, ← td6]; rfl
 unfold mpt
 by_cases h0 : mw p q r = 0
 ·rw [bt (by rw [h0]; rfl), if_pos h0]
  rfl
 ·have hz : (mw p q r == 0) = false := by simpa using h0
  rw [bf hz, if_neg h0]
  have hgp := bc0 (v := mv p q r) h0
  have hgl := bd6 (v := mv p q r) h0
  have hge := gd5 _ (by simp) hb (by rw [hf]; unfold gc at hgl; unfold Sm at hw; omega)
  have hgv : Sa6 [(mv p q r).x, (mv p q r).y, (mv p q r).z, mw p q r] = gc (mv p q r) (mw p q r) := by
   unfold Sa6; rw [hge, hf]; rfl
  have hgg : Sa7 [(mv p q r).x, (mv p q r).y, (mv p q r).z, mw p q r] = true := by
   unfold Sa7; rw [hge]; rfl
  rw [hgv, bt hgg]
  generalize hG : gc (mv p q r) (mw p q r) = G at *
  have hGW : W (0 - G) = -G := by unfold Sm at hw; rw [Ca1 (by omega) (by omega)]; omega
  have hGn : (-G == 0) = false := by simp; omega
  have hGp : (G == 0) = false := by simp; omega
  by_cases h1 : mw p q r < 0
  ·rw [bt (decide_eq_true h1), if_pos h1]
   simp only [hGW]
   rw [bf hGn, bf hGn, bf hGn, bf hGn]
   simp only [Int.tdiv_neg, ← Int.neg_tdiv]
   have neg : ∀ {n x : Int}, Sm n x → Sm n (-x) := fun h => ⟨by have := h.2; omega, by have := h.1; omega⟩
   rw [xb0 ((Y1 (neg v1) hgp).mono (by omega)), xb0 ((Y1 (neg v2) hgp).mono (by omega)), xb0 ((Y1 (neg v3) hgp).mono (by omega)), xb0 ((Y1 (neg hw) hgp).mono (by omega))]
   rfl
  ·rw [bf (decide_eq_false h1), if_neg h1, bf hGp, bf hGp, bf hGp, bf hGp]
   rw [xb0 ((Y1 v1 hgp).mono (by omega)), xb0 ((Y1 v2 hgp).mono (by omega)), xb0 ((Y1 v3 hgp).mono (by omega)), xb0 ((Y1 hw hgp).mono (by omega))]
   rfl
theorem gd7 {p q r : Pln} (hp : Bd p) (hq : Bd q) (hr : Bd r) : wa2 ⟨p, q, r⟩ = mpt p q r := by unfold wa2; rw [xc8 hp hq hr]; rfl
theorem gd8 {p q r : Pln} (hp : Bd p) (hq : Bd q) (hr : Bd r) : wa3 ⟨p, q, r⟩ = true := by unfold wa3; rw [xc8 hp hq hr]; rfl
end Go.Ev.Ce
namespace Go.Ev.Ce
open Go Go.Ev Go.Ev.L Go.Proofs
noncomputable def inn (l : List Pln) (x : Pt) : Bool := l.all fun p => !decide (rm p x < 0)
theorem Wc8 (l : List Pln) (x : Pt) : inn l x = !l.any fun p => decide (rm p x < 0) := by unfold inn; rw [List.not_any_eq_all_not]
theorem nd4 (p : Pln) (x : Pt) : ya7 ⟨p.n.x, p.n.y, p.n.z, p.b, x.px, x.py, x.pz, x.pw⟩ = ⟨decide (rm p x < 0)⟩ := by
 show da5.mk (decide (ca8 p x < 0)) = _
 rw [ac9]
theorem Wc9 (l : List Pln) (x : Pt) (hl : l.length ≤ 1000000000) : K5 ⟨l, x.px, x.py, x.pz, x.pw⟩ = ⟨1, if l.any (fun p => decide (rm p x < 0)) then ((l.findIdx (fun p => decide (rm p x < 0)) : Nat) : Int) else -1⟩ := by
 have h := Ra7 (step := B9 ⟨l, (l.length : Int), x.px, x.py, x.pz, x.pw⟩) (mk := fun j => (⟨(j : Int)⟩ : k9)) (c := fun p => decide (rm p x < 0)) (u := 1) (fin := 2) tP l hl
  (fun j hj => by
   simp only [B9, z8, Int.toNat_natCast, nd4, M5 hj (by omega)]
   rw [bt (Jb0 hj), bt (q8 hj)])
  (by simp only [B9, z8]; rw [bf (Db6 (Nat.lt_irrefl _))]) 0 (Nat.zero_le _)
 rw [List.drop_zero] at h
 unfold K5 A5
 simp only [F9, J7]
 rw [show (⟨0⟩ : k9) = ⟨((0 : Nat) : Int)⟩ from rfl, h]
 split
 ·simp only [Nat.zero_add]; rfl
 ·rfl
theorem Vb0 (l : List Pln) (x : Pt) (hl : l.length ≤ 1000000000) : la7 l x = some (b (inn l x), []) := by
 unfold la7 P8 v4
 simp only [F9, J7, Wc9 l x hl, Wc8]
 split
 ·rename_i h
  rw [h, show decide (((l.findIdx (fun p => decide (rm p x < 0)) : Nat) : Int) ≥ 0) = true from decide_eq_true (by omega)]; rfl
 ·rename_i h
  rw [Bool.not_eq_true] at h
  rw [h]; rfl
theorem Lb3 (l : List Pln) (x : Pt) (hl : l.length ≤ 1000000000) : N2 l x = inn l x := by unfold N2; rw [Vb0 l x hl]; rfl
theorem Lb4 (l : List Pln) (x : Pt) (hl : l.length ≤ 1000000000) : N3 l x = true := by unfold N3; rw [Vb0 l x hl]; rfl
def eqX (x q : Pt) : Bool := q.px == x.px && (q.py == x.py && (q.pz == x.pz && (q.pw == x.pw && true)))
theorem bc1 (x q : Pt) : eqX x q = true ↔ q = x := by
 unfold eqX
 simp only [Bool.and_true, Bool.and_eq_true, beq_iff_eq]
 exact ⟨fun ⟨h1, h2, h3, h4⟩ => by cases q; cases x; simp_all, fun h => by subst h; exact ⟨rfl, rfl, rfl, rfl⟩⟩
def Bb9 (l : List Pt) (x : Pt) : Bool := l.any (eqX x)
theorem Mc9 (l : List Pt) (x : Pt) : Bb9 l x = true ↔ x ∈ l := by
 unfold Bb9
 rw [List.any_eq_true]
 exact ⟨fun ⟨q, h, e⟩ => (bc1 x q).1 e ▸ h, fun h => ⟨x, h, (bc1 x x).2 rfl⟩⟩
def smb (n x : Int) : Bool := !decide (x < -n) && !decide (x > n)
theorem fb0 (n x : Int) : smb n x = true ↔ Sm n x := by unfold smb Sm; simp only [Bool.and_eq_true, Bool.not_eq_true', decide_eq_false_iff_not]; omega
theorem Lb5 (n : Int) (l : List Int) (hn : 0 ≤ n ∧ n ≤ 1000000000) (hl : l.length ≤ 1000000000) : ha4 n l = some (b (l.all (smb n)), []) := by
 have hW : W (0 - n) = -n := by rw [Ca1 (by omega) (by omega)]; omega
 have h := sc4 (step := X7 ⟨n, l, (l.length : Int)⟩) (mk := fun j => (⟨(j : Int)⟩ : E9)) (c := fun x => !smb n x) (u := 1) (fin := 2) tI l hl
  (fun j hj => by
   simp only [X7, T9, Int.toNat_natCast, M5 hj (by omega), hW]
   rw [bt (Jb0 hj), bt (q8 hj)]
   unfold smb
   cases decide (gL tI l j < -n) <;> cases decide (gL tI l j > n) <;> rfl)
  (by simp only [X7, T9]; rw [bf (Db6 (Nat.lt_irrefl _))]) 0 (Nat.zero_le _)
 rw [List.drop_zero] at h
 unfold ha4
 simp only [F9, J7]
 rw [show (⟨0⟩ : E9) = ⟨((0 : Nat) : Int)⟩ from rfl, h]
 have e : (l.any fun x => !smb n x) = !l.all (smb n) := by rw [List.not_all_eq_any_not]
 rw [e]
 cases l.all (smb n) <;> rfl
theorem xb1 (n : Int) (l : List Int) (hn : 0 ≤ n ∧ n ≤ 1000000000) (hl : l.length ≤ 1000000000) : ba3 n l = l.all (smb n) := by unfold ba3; rw [Lb5 n l hn hl]; rfl
theorem xb2 (n : Int) (l : List Int) (hn : 0 ≤ n ∧ n ≤ 1000000000) (hl : l.length ≤ 1000000000) : ba4 n l = true := by unfold ba4; rw [Lb5 n l hn hl]; rfl
theorem lc0 {n : Int} (h : Sm 1000000000000000000 n) : ja5 n = (n.natAbs : Int) := by
 unfold ja5
 obtain ⟨h1, h2⟩ := h
 rw [Ca1 (by omega) (by omega)]
 split <;> omega
def g3 (v : V3) : Int := (Nat.gcd (Nat.gcd v.x.natAbs v.y.natAbs) v.z.natAbs : Nat)
theorem gd9 (g n : Nat) : eu (g : Int) (n : Int) = (Nat.gcd g n : Nat) := by rw [fd2 (by omega) (by omega)]; rfl
theorem Qb3 (P : P5) (g n : Nat) (hn : n ≤ 1000000000000000000) : lp (M7 P) ⟨(g : Int), (n : Int)⟩ = (1, ⟨(Nat.gcd g n : Nat), 0⟩) := by
 have := ic6 (step := M7 P) (mk := fun g n => (⟨g, n⟩ : G1)) (fun g n h => by
  have h0 : n ≠ 0 := by omega
  simp [M7, Q7, kb7, h, h0]) (fun g => by simp [M7, Q7, kb7]) (g : Int) (n : Int) (by omega) (by omega) (by omega)
 rw [this, gd9]
theorem tc7 (l : List Int) (hl : l.length ≤ 1000000000) (hb : ∀ x ∈ l, Sm 1000000000000000000 x) : da8 l = some (i (l.foldl (fun g x => Nat.gcd g x.natAbs) 0 : Nat), []) := by
 have h := Db8 (step := U0 ⟨(l.length : Int)⟩) (mk := fun j (a : Nat) => (⟨(a : Int), l, (j : Int)⟩ : D3)) (f := fun g x => Nat.gcd g x.natAbs) (fin := 2) tI l (fun _ _ => True) hl (fun j a hj _ => ⟨by
   have hm := hb _ (Zb1 tI hj)
   have hne : (gL tI l j == (-9223372036854775808 : Int)) = false := by
    have := hm.1
    rw [beq_eq_false_iff_ne]; omega
   have hs : (gL tI l j).natAbs ≤ 1000000000000000000 := by obtain ⟨h1, h2⟩ := hm; omega
   simp only [U0, Q8, Int.toNat_natCast, F9, J7, lc0 hm, Qb3 _ _ _ hs, M5 hj (by omega)]
   rw [bt (Jb0 hj), bt (q8 hj), bf hne]
   rfl, trivial⟩) (fun a _ => by simp only [U0, Q8]; rw [bf (Db6 (Nat.lt_irrefl _))]) 0 (Nat.zero_le _) 0 trivial
 have h := h.1
 rw [List.drop_zero] at h
 unfold da8
 simp only [F9, J7]
 rw [show (⟨0, l, 0⟩ : D3) = ⟨((0 : Nat) : Int), l, ((0 : Nat) : Int)⟩ from rfl, h]
 rfl
def okp (p : Pln) : Bool := [p.n.x, p.n.y, p.n.z].all (smb 4608) && (g3 p.n == 1 && [p.b].all (smb 2097152))
theorem hd4 (p : Pln) : Bd p ↔ [p.n.x, p.n.y, p.n.z].all (smb 4608) = true ∧ [p.b].all (smb 2097152) = true := by
 simp only [List.all_cons, List.all_nil, Bool.and_true, Bool.and_eq_true, fb0, Sm]
 exact ⟨fun h => ⟨⟨⟨h.x1, h.x2⟩, ⟨h.y1, h.y2⟩, h.z1, h.z2⟩, h.b1, h.b2⟩, fun ⟨⟨⟨a, b⟩, ⟨c, d⟩, e, f⟩, g, h⟩ => ⟨a, b, c, d, e, f, g, h⟩⟩
theorem Lb6 {p : Pln} (h : okp p = true) : Bd p := by
 unfold okp at h
 rw [Bool.and_eq_true, Bool.and_eq_true] at h
 exact (hd4 p).2 ⟨h.1, h.2.2⟩
theorem sm3 {v : V3} (h : [v.x, v.y, v.z].all (smb 4608) = true) : Sm 4608 v.x ∧ Sm 4608 v.y ∧ Sm 4608 v.z := by
 simpa only [List.all_cons, List.all_nil, Bool.and_true, Bool.and_eq_true, fb0] using h
theorem lc1 (p : Pln) : la9 p = some (b (okp p), []) := by
 unfold la9 okp
 have l3 : [p.n.x, p.n.y, p.n.z].length ≤ 1000000000 := by simp
 have l1 : [p.b].length ≤ 1000000000 := by simp
 simp only [xb1 4608 _ (by omega) l3, xb2 4608 _ (by omega) l3, xb1 2097152 _ (by omega) l1, xb2 2097152 _ (by omega) l1]
 cases hw : [p.n.x, p.n.y, p.n.z].all (smb 4608) with
 | false => rfl
 | true =>
  obtain ⟨h1, h2, h3⟩ := sm3 hw
  have hd := tc7 [p.n.x, p.n.y, p.n.z] l3 (by
   intro x hx
   simp only [List.mem_cons, List.not_mem_nil, or_false] at hx
   rcases hx with rfl | rfl | rfl
   ·exact h1.mono (by omega)
   ·exact h2.mono (by omega)
   ·exact h3.mono (by omega))
  have hg : ([p.n.x, p.n.y, p.n.z].foldl (fun g x => Nat.gcd g x.natAbs) 0 : Nat) = Nat.gcd (Nat.gcd p.n.x.natAbs p.n.y.natAbs) p.n.z.natAbs := by
   simp only [List.foldl_cons, List.foldl_nil, Nat.gcd_zero_left]
  have hp : ma9 [p.n.x, p.n.y, p.n.z] = g3 p.n := by unfold ma9; rw [hd, hg]; rfl
  have hgd : na0 [p.n.x, p.n.y, p.n.z] = true := by unfold na0; rw [hd]; rfl
  rw [hp, hgd]
  cases g3 p.n == 1 <;> rfl
theorem Xc0 (p : Pln) : va1 p = okp p := by unfold va1; rw [lc1 p]; rfl
theorem Xc1 (p : Pln) : va2 p = true := by unfold va2; rw [lc1 p]; rfl
def chk (l : List Pln) : Int := if (l.length : Int) > 48 then 2 else if l.all okp then 0 else 12
theorem lc2 (l : List Pln) (hl : l.length ≤ 1000000000) : qa5 l = some (i (chk l), []) := by
 have hk1 : ∀ p, ha5 p = some (b (!okp p), []) := fun p => by unfold ha5; rw [Xc1, Xc0]; rfl
 have hp1 : ∀ p, qa3 p = !okp p := fun p => by unfold qa3; rw [hk1]; rfl
 have hg1 : ∀ p, qa4 p = true := fun p => by unfold qa4; rw [hk1]; rfl
 have h := Ra7 (step := C0 ⟨l, (l.length : Int)⟩) (mk := fun j => (⟨(j : Int)⟩ : l0)) (c := fun p => !okp p) (u := 1) (fin := 2) tP l hl
  (fun j hj => by
   simp only [C0, z9, Int.toNat_natCast, hp1, hg1, M5 hj (by omega)]
   rw [bt (Jb0 hj), bt (q8 hj), ma7])
  (by simp only [C0, z9]; rw [bf (Db6 (Nat.lt_irrefl _))]) 0 (Nat.zero_le _)
 rw [List.drop_zero] at h
 have e : (l.any fun x => !okp x) = !l.all okp := by rw [List.not_all_eq_any_not]
 unfold qa5 P9 v5 W4 A6 chk
 simp only [F9, J7]
 rw [show (⟨0⟩ : l0) = ⟨((0 : Nat) : Int)⟩ from rfl, h, e]
 by_cases hn : (l.length : Int) > 48
 ·rw [bt (decide_eq_true hn), if_pos hn]
 ·rw [bf (decide_eq_false hn), if_neg hn]
  cases l.all okp with
  | true => rfl
  | false =>
   simp only [Bool.not_false, if_true, Nat.zero_add]
   show sl true (sl (Nat.beq 1 1) (sl (decide (((l.findIdx fun p => !okp p : Nat) : Int) ≥ 0)) _ _) _) _ = _
   rw [show decide (((l.findIdx fun p => !okp p : Nat) : Int) ≥ 0) = true from decide_eq_true (by omega)]
   rfl
theorem xc9 (l : List Pln) (hl : l.length ≤ 1000000000) : qa6 l = chk l := by unfold qa6; rw [lc2 l hl]; rfl
theorem yc0 (l : List Pln) (hl : l.length ≤ 1000000000) : qa7 l = true := by unfold qa7; rw [lc2 l hl]; rfl
theorem rb5 {l : List Pln} : chk l = 0 ↔ l.length ≤ 48 ∧ ∀ p ∈ l, okp p = true := by
 unfold chk
 by_cases hn : (l.length : Int) > 48
 ·rw [if_pos hn]
  exact ⟨fun h => absurd h (by decide), fun h => by omega⟩
 ·rw [if_neg hn]
  cases h : l.all okp with
  | true => exact ⟨fun _ => ⟨by omega, List.all_eq_true.1 h⟩, fun _ => rfl⟩
  | false => exact ⟨fun h => absurd h (by decide), fun h' => by rw [List.all_eq_true.2 h'.2] at h; cases h⟩
end Go.Ev.Ce
