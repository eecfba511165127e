/- Own work: a part of the proof. -/
import Derived.Test.YtlccibobknidjaaGreatEvCePf
import Derived.Test.YtlccibobknidjaaGreatEvSpB
import Derived.Test.YtlccibobknidjaaGreatEvMem3
import Derived.Test.YtlccibobknidjaaGreatEvCeBod
set_option linter.unusedVariables false
set_option linter.unusedSimpArgs false
set_option linter.unnecessarySimpa false
set_option linter.unusedSectionVars false
namespace Go.Ev.L
open Go Go.Ev
noncomputable def Pb8 : RT → PC → PS2
 | .s a b, .seq x y => .seq (Pb8 a x) (Pb8 b y)
 | .c a b, .cond g x y => .cond g (Pb8 a x) (Pb8 b y)
 | .b a, .block id x => .block id (Pb8 a x)
 | .i a, .inner f x n c => .inner f x n (Pb8 a c)
 | .u S, _ => .sum S
 | _, c => .pc c
theorem od0 {E : Env} {k : Nat} (rt : RT) (c : PC) : Pa3 (fun x => ∀ s, Y0 (x.1 s) (O2 E k x.2 s)) (Yb4 rt c) → ja1 E k (Pb8 rt c) c := by
 induction rt generalizing c with
 | p => intro h; cases c <;> exact .pc _
 | s a b iha ihb =>
  intro h
  cases c with
  | seq x y => exact .seq (iha x (Pa3.app h).1) (ihb y (Pa3.app h).2)
  | _ => exact .pc _
 | c a b iha ihb =>
  intro h
  cases c with
  | cond g x y => exact .cond g (iha x (Pa3.app h).1) (ihb y (Pa3.app h).2)
  | _ => exact .pc _
 | b a iha =>
  intro h
  cases c with
  | block id x => exact .block id (iha x h)
  | _ => exact .pc _
 | l a iha => intro h; cases c <;> exact .pc _
 | i a iha =>
  intro h
  cases c with
  | inner f x n c => exact .inner f x n (iha c h)
  | _ => exact .pc _
 | u S =>
  intro h
  have : Yb4 (.u S) c = [(S, c)] := by cases c <;> rfl
  rw [this] at h
  cases h with
  | cons h t =>
   have e : Pb8 (.u S) c = .sum S := by cases c <;> rfl
   rw [e]
   exact .sum h
section
variable {π σ : Type} {E : Env} {k : Nat} {keep : List Nat} {alts : List (Al2 π σ)} {enc : π → σ → St} {step : π → σ → Stp σ} {xs : Xs π σ} {body : PS2} {c : PC}
theorem Ob8.belowM (hb : ja1 E k body c) (hN : E.N = rounds + 1) (w : Ob8 Ad2 k keep (tc6 E k body) alts step xs enc) (s : St) : Y0 (fd9 Ad2 k keep alts step xs s) (O2 E k (.loopM keep c) s) := fun r hr => by
 obtain ⟨t, h1, h2⟩ := w.go hr
 rw [Md9, hN]
 exact Eb3 hb.le _ _ _ (Vb3 h1 h2)
theorem Ob8.belowML (hb : ja1 E k body c) (hN : E.N = rounds + 1) (w : Ob8 Ob5 k keep (tc6 E k body) alts step xs enc) (s : St) : Y0 (fd9 Ob5 k keep alts step xs s) (O2 E k (.loop keep c) s) := fun r hr => by
 obtain ⟨t, h1, h2⟩ := w.go hr
 rw [fd8, hN]
 exact Eb3 hb.le _ _ _ (Vb3 h1 h2)
end
end Go.Ev.L
namespace Go.Ev.Ab
open Go Go.Ev
@[reducible] def o (d : Nat) (x : PO) : PI := ⟨some d, none, [], x⟩
@[reducible] def s (x : PO) : PI := ⟨none, none, [], x⟩
@[reducible] def cb (b : Bool) : Arg := .c (.v (.bool b))
@[reducible] def vi (n : Int) : b7 := .v (.int .i64 n)
@[reducible] def rep {α : Type} (n : Nat) (x : α) : List α := List.replicate n x
@[reducible] def ki (n : Nat) : List CK := List.replicate n (.int .i64)
@[reducible] def mv (d n : Nat) : PI := o d (.mv (.t n))
@[reducible] def mb (d : Nat) (x : Bool) : PI := o d (.mv (cb x))
@[reducible] def fd (d k n : Nat) : PI := o d (.fld k (.t n))
@[reducible] def lf (d k n : Nat) : PI := o d (.load (ki k) k false (.t n))
@[reducible] def ex (d x k : Nat) : PI := o d (.ext (.t x) k)
@[reducible] def gf (n : Nat) (x : PI) : PI := ⟨x.dst, some (n, false), x.hide, x.op⟩
@[reducible] def so (l : List PI) (x : PC) : PC := .seq (.ops l) x
@[reducible] def ts (l : List Nat) : List Arg := l.map .t
@[reducible] def cl (f : Nat) (l : List Nat) : PO := .call f (ts l)
@[reducible] def sT (k a b : Nat) : PI := s (.store k (.t a) (.t b))
@[reducible] def pa (d c x : Nat) : PI := o d (.pick (.t c) (.t x) (cb false))
@[reducible] def po (d c x : Nat) : PI := o d (.pick (.t c) (cb true) (.t x))
@[reducible] def al (d k : Nat) (n : Int) : PI := o d (.alloc (rep k (vi n)))
@[reducible] def ap (d et es n x y : Nat) : PI := o d (.append et es n (.t x) (.t y))
end Go.Ev.Ab
namespace Go.Ev.L
open Go Go.Ev
def Cps {π σ : Type} (u : ∀ {α : Type}, (σ → α) → (Nat → α) → α → π → σ → α) : Prop :=
 ∀ {α β : Type} (F : α → β) (k : σ → α) (e : Nat → α) (z : α) (p : π) (s : σ), F (u k e z p s) = u (fun x => F (k x)) (fun t => F (e t)) (F z) p s
@[reducible] noncomputable def foL {π σ : Type} (en : π → σ → St) (xs : Xs π σ) (p : π) (s : σ) : Stp σ → Option (c9 × St) := Ob6 (fun s' => some (.normal, en p s')) (fun t => xOf xs p s t 1) none
structure Lo (π σ : Type) where
 E : Env
 k : Nat
 F : PFn
 at' : List Nat
 kp : List Nat
 rt : RT
 al : List (Al2 π σ)
 st : π → σ → Stp σ
 xs : Xs π σ
 en : π → σ → St
namespace Lo
variable {π σ : Type} (L : Lo π σ)
noncomputable def lc : PC := af2 L.at' L.F.body
noncomputable def ls : St → DT (c9 × St) := fd9 Ob5 L.k L.kp L.al L.st L.xs
noncomputable def lsM : St → DT (c9 × St) := fd9 Ad2 L.k L.kp L.al L.st L.xs
noncomputable def pr : (St → DT (c9 × St)) × PC := (L.ls, .loop L.kp L.lc)
noncomputable def prM : (St → DT (c9 × St)) × PC := (L.lsM, .loopM L.kp L.lc)
def Ok : Prop := ∀ s, da7 L.k L.F.res (L.pr.1 s) (O2 L.E L.k L.pr.2 s)
def OkE : Prop := ∀ s, Y0 (L.pr.1 s) (O2 L.E L.k L.pr.2 s)
def OkM : Prop := ∀ s, Y0 (L.prM.1 s) (O2 L.E L.k L.prM.2 s)
def Rd (hd : St → DT St) (bd : St → DT (c9 × St)) (p : π) (s : σ) (a : St) (b : Stp σ) : Prop := (Eb4 hd bd a).run = foL L.en L.xs p s b
def H0 : Prop := ∀ p s, L.Rd (Ob5 L.k L.kp) (Rd0 L.E L.k L.F.res (Wc5 L.rt L.lc)) p s (L.en p s) (L.st p s)
def H1 : Prop := ∀ p s, L.Rd (Ob5 L.k L.kp) (tc6 L.E L.k (Pb8 L.rt L.lc)) p s (L.en p s) (L.st p s)
def H2 : Prop := ∀ p s, L.Rd (Ad2 L.k L.kp) (tc6 L.E L.k (Pb8 L.rt L.lc)) p s (L.en p s) (L.st p s)
def HA : Prop := Pa3 (fun x => ∀ a H, (⟨Zd5 x.sh a, Zd6 x.bl H⟩ : St) = L.en (x.rd a H).1 (x.rd a H).2) L.al
variable {L}
theorem Rd.of {hd : St → DT St} {bd : St → DT (c9 × St)} {p : π} {s : σ} {a : St} (u : ∀ {α : Type}, (σ → α) → (Nat → α) → α → π → σ → α)
  (q : Cps @u) (H : (Eb4 hd bd a).run = u (fun x => foL L.en L.xs p s (.next x)) (fun t => foL L.en L.xs p s (.exit t)) (foL L.en L.xs p s .fail) p s) : L.Rd hd bd p s a (u .next .exit .fail p s) :=
 H.trans (q (foL L.en L.xs p s) Stp.next Stp.exit Stp.fail p s).symm
theorem Rd.sel {hd : St → DT St} {bd : St → DT (c9 × St)} {p : π} {s : σ} {a1 a0 : St} {b1 b0 : Stp σ} (c : Bool) (h1 : L.Rd hd bd p s a1 b1) (h0 : L.Rd hd bd p s a0 b0) : L.Rd hd bd p s (sel c a1 a0) (sel c b1 b0) := by
 cases c with
 | true => exact h1
 | false => exact h0
theorem ok (l : List ((St → DT (c9 × St)) × PC)) (hs : Yb4 L.rt L.lc = l) (hl : Pa3 (fun x => ∀ s, da7 L.k L.F.res (x.1 s) (O2 L.E L.k x.2 s)) l) (hN : L.E.N = rounds + 1) (ha : L.HA) (h : L.H0) : L.Ok :=
 Ob8.belowC (Rd7 _ _ (by rw [hs]; exact hl)) hN ⟨ha, h⟩
theorem okE (l : List ((St → DT (c9 × St)) × PC)) (hs : Yb4 L.rt L.lc = l) (hl : Pa3 (fun x => ∀ s, Y0 (x.1 s) (O2 L.E L.k x.2 s)) l) (hN : L.E.N = rounds + 1) (ha : L.HA) (h : L.H1) : L.OkE :=
 Ob8.belowML (od0 _ _ (by rw [hs]; exact hl)) hN ⟨ha, h⟩
theorem okM (l : List ((St → DT (c9 × St)) × PC)) (hs : Yb4 L.rt L.lc = l) (hl : Pa3 (fun x => ∀ s, Y0 (x.1 s) (O2 L.E L.k x.2 s)) l) (hN : L.E.N = rounds + 1) (ha : L.HA) (h : L.H2) : L.OkM :=
 Ob8.belowM (od0 _ _ (by rw [hs]; exact hl)) hN ⟨ha, h⟩
end Lo
theorem sa6 {E : Env} {F : PFn} {args : List b7} {blks : List b8} {o : Option (b7 × List b8)} (rt : RT) (l : List ((St → DT (c9 × St)) × PC)) (hs : Yb4 rt F.body = l)
  (hl : Pa3 (fun x => ∀ s, da7 (len blks) F.res (x.1 s) (O2 E (len blks) x.2 s)) l) (h : (Re3 E F (Wc5 rt F.body) args blks).run = o) (r : b7 × List b8) (hr : o = some r) : (i8 E F args blks).run = some r :=
 Ld6 (Rd7 rt _ (by rw [hs]; exact hl)) r (h.trans hr)
theorem Ge4 {E : Env} {F : PFn} {args : List b7} {blks : List b8} {o : Option (b7 × List b8)} (rt : RT) (l : List ((St → DT (c9 × St)) × PC)) (hs : Yb4 rt F.body = l)
  (hl : Pa3 (fun x => ∀ s, Y0 (x.1 s) (O2 E (len blks) x.2 s)) l) (h : (Ee1 E F (Pb8 rt F.body) args blks).run = o) (r : b7 × List b8) (hr : o = some r) : (Pb6 E F args blks).run = some r :=
 Ad1 (od0 rt _ (by rw [hs]; exact hl)) r (h.trans hr)
theorem r9 {A o : Option (b7 × List b8)} (h : A = o) (r : b7 × List b8) (hr : o = some r) : A = some r := h.trans hr
end Go.Ev.L
namespace Go.Ev.Ce
structure V3 where
 x : Int
 y : Int
 z : Int
structure Pln where
 n : V3
 b : Int
structure Pt where
 px : Int
 py : Int
 pz : Int
 pw : Int
def p7 (a b : V3) : V3 := ⟨a.y * b.z - a.z * b.y, a.z * b.x - a.x * b.z, a.x * b.y - a.y * b.x⟩
def dot (a b : V3) : Int := a.x * b.x + a.y * b.y + a.z * b.z
def mw (p q r : Pln) : Int := dot p.n (p7 q.n r.n)
end Go.Ev.Ce
namespace Go.Ev.Ce
open Go Go.Ev Go.Ev.L Go.Proofs
@[reducible] noncomputable def prog : Program := Tryz.prog
noncomputable def G : Nat → List Value := fun _ => []
noncomputable def En (l : List (Nat × Sum)) : Env := { P := prog, G, fns := fun _ => none, call := Je3 l, own := fun f j => Bool.and (Ya5 f [99, 103, 105, 135, 163, 198, 200, 202]) (Nat.beq j 0), N := 18446744073709551616 }
@[reducible] def u : b7 := .v (.tuple #[])
theorem We8 {l : List (Nat × Sum)} (h : i6 prog G l) : ∀ f, g9 (En l).P (En l).G f ((En l).call f) := Qd8 h
theorem bd {l : List (Nat × Sum)} {f : FuncId} {R : Env → Sum} (b : r4 prog f R) (h : i6 prog G l) : g9 prog G f (R (En l)) := b rfl (We8 h)
noncomputable def tV : Ty V3 where
 es := 3
 row x := [i x.x, i x.y, i x.z]
 rd r := ⟨toI (hdA r), toI (hdA (tlA r)), toI (hdA (tlA (tlA r)))⟩
 ok r := za8 3 r
 cks := List.replicate 3 (.int .i64)
 d := ⟨0, 0, 0⟩
 h0 _ := rfl
 h1 _ := rfl
 h2 _ := rfl
 h3 _ h := .of (Ma8 h)
 h4 _ := rfl
 h5 _ := rfl
noncomputable def r1V : R1 V3 := r1A tV 3 fun _ h => h
noncomputable def tP : Ty Pln where
 es := 4
 row x := [i x.n.x, i x.n.y, i x.n.z, i x.b]
 rd r := ⟨⟨toI (hdA r), toI (hdA (tlA r)), toI (hdA (tlA (tlA r)))⟩, toI (hdA (tlA (tlA (tlA r))))⟩
 ok r := za8 4 r
 cks := List.replicate 4 (.int .i64)
 d := ⟨⟨0, 0, 0⟩, 0⟩
 h0 _ := rfl
 h1 _ := rfl
 h2 _ := rfl
 h3 _ h := .of (Ma8 h)
 h4 _ := rfl
 h5 _ := rfl
noncomputable def r1P : R1 Pln := r1A tP 4 fun _ h => h
noncomputable def tX : Ty Pt where
 es := 4
 row x := [i x.px, i x.py, i x.pz, i x.pw]
 rd r := ⟨toI (hdA r), toI (hdA (tlA r)), toI (hdA (tlA (tlA r))), toI (hdA (tlA (tlA (tlA r))))⟩
 ok r := za8 4 r
 cks := List.replicate 4 (.int .i64)
 d := ⟨0, 0, 0, 0⟩
 h0 _ := rfl
 h1 _ := rfl
 h2 _ := rfl
 h3 _ h := .of (Ma8 h)
 h4 _ := rfl
 h5 _ := rfl
noncomputable def r1X : R1 Pt := r1A tX 4 fun _ h => h
structure Tp where
 p : Pln
 q : Pln
 r : Pln
noncomputable def tY : Ty Tp where
 es := 12
 row x := [i x.p.n.x, i x.p.n.y, i x.p.n.z, i x.p.b, i x.q.n.x, i x.q.n.y, i x.q.n.z, i x.q.b, i x.r.n.x, i x.r.n.y, i x.r.n.z, i x.r.b]
 rd r := ⟨⟨⟨toI (hdA r), toI (hdA (tlA r)), toI (hdA (tlA (tlA r)))⟩, toI (hdA (tlA (tlA (tlA r))))⟩, ⟨⟨toI (hdA (tlA (tlA (tlA (tlA r))))), toI (hdA (tlA (tlA (tlA (tlA (tlA r)))))), toI (hdA (tlA (tlA (tlA (tlA (tlA (tlA r)))))))⟩, toI (hdA (tlA (tlA (tlA (tlA (tlA (tlA (tlA r))))))))⟩, ⟨⟨toI (hdA (tlA (tlA (tlA (tlA (tlA (tlA (tlA (tlA r))))))))), toI (hdA (tlA (tlA (tlA (tlA (tlA (tlA (tlA (tlA (tlA r)))))))))), toI (hdA (tlA (tlA (tlA (tlA (tlA (tlA (tlA (tlA (tlA (tlA r)))))))))))⟩, toI (hdA (tlA (tlA (tlA (tlA (tlA (tlA (tlA (tlA (tlA (tlA (tlA r))))))))))))⟩⟩
 ok r := za8 12 r
 cks := List.replicate 12 (.int .i64)
 d := ⟨⟨⟨0, 0, 0⟩, 0⟩, ⟨⟨0, 0, 0⟩, 0⟩, ⟨⟨0, 0, 0⟩, 0⟩⟩
 h0 _ := rfl
 h1 _ := rfl
 h2 _ := rfl
 h3 _ h := .of (Ma8 h)
 h4 _ := rfl
 h5 _ := rfl
structure Q2 where
 a : V3
 b : V3
noncomputable def tQ : Ty Q2 where
 es := 6
 row x := [i x.a.x, i x.a.y, i x.a.z, i x.b.x, i x.b.y, i x.b.z]
 rd r := ⟨⟨toI (hdA r), toI (hdA (tlA r)), toI (hdA (tlA (tlA r)))⟩, ⟨toI (hdA (tlA (tlA (tlA r)))), toI (hdA (tlA (tlA (tlA (tlA r))))), toI (hdA (tlA (tlA (tlA (tlA (tlA r))))))⟩⟩
 ok r := za8 6 r
 cks := List.replicate 6 (.int .i64)
 d := ⟨⟨0, 0, 0⟩, ⟨0, 0, 0⟩⟩
 h0 _ := rfl
 h1 _ := rfl
 h2 _ := rfl
 h3 _ h := .of (Ma8 h)
 h4 _ := rfl
 h5 _ := rfl
end Go.Ev.Ce
