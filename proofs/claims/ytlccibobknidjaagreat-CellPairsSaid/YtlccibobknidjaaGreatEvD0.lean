/- Own work: a part of the proof. -/
import Derived.Test.YtlccibobknidjaaGreatEvAbb
import Derived.Test.YtlccibobknidjaaGreatEvLt
import Derived.Test.YtlccibobknidjaaGreatEvCeBod
set_option linter.unusedVariables false
set_option linter.unusedSimpArgs false
set_option linter.unnecessarySimpa false
set_option linter.unusedSectionVars false
namespace Go.Ev.L
open Go Go.Ev
noncomputable def Ab2 : RT → PC → PS2
 | .s a b, .seq x y => .seq (Ab2 a x) (Ab2 b y)
 | .c a b, .cond g x y => .cond g (Ab2 a x) (Ab2 b y)
 | .b a, .block id x => .block id (Ab2 a x)
 | .i a, .inner f x n c => .inner f x n (Ab2 a c)
 | .u S, _ => .sum S
 | _, c => .pc c
theorem Rc8 {E : Env} {k : Nat} (rt : RT) (c : PC) : Ea7 (fun x => ∀ s, R5 (x.1 s) (K2 E k x.2 s)) (Hb6 rt c) → ba7 E k (Ab2 rt c) c := by
 induction rt generalizing c with
 | p => intro h; cases c <;> exact .pc _
 | s a b iha ihb =>
  intro h
  cases c with
  | seq x y => exact .seq (iha x (Ea7.app h).1) (ihb y (Ea7.app h).2)
  | _ => exact .pc _
 | c a b iha ihb =>
  intro h
  cases c with
  | cond g x y => exact .cond g (iha x (Ea7.app h).1) (ihb y (Ea7.app h).2)
  | _ => exact .pc _
 | b a iha =>
  intro h
  cases c with
  | block id x => exact .block id (iha x h)
  | _ => exact .pc _
 | l a iha => intro h; cases c <;> exact .pc _
 | i a iha =>
  intro h
  cases c with
  | inner f x n c => exact .inner f x n (iha c h)
  | _ => exact .pc _
 | u S =>
  intro h
  have : Hb6 (.u S) c = [(S, c)] := by cases c <;> rfl
  rw [this] at h
  cases h with
  | cons h t =>
   have e : Ab2 (.u S) c = .sum S := by cases c <;> rfl
   rw [e]
   exact .sum h
section
variable {π σ : Type} {E : Env} {k : Nat} {keep : List Nat} {alts : List (Al2 π σ)} {enc : π → σ → St} {step : π → σ → Stp σ} {xs : Xs π σ} {body : PS2} {c : PC}
theorem zb2.belowM (hb : ba7 E k body c) (hN : E.N = rounds + 1) (w : zb2 dd8 k keep (bc1 E k body) alts step xs enc) (s : St) : R5 (Kc5 dd8 k keep alts step xs s) (K2 E k (.loopM keep c) s) := fun r hr => by
 obtain ⟨t, h1, h2⟩ := w.go hr
 rw [pd9, hN]
 exact pb9 hb.le _ _ _ (Fb1 h1 h2)
theorem zb2.belowML (hb : ba7 E k body c) (hN : E.N = rounds + 1) (w : zb2 yb7 k keep (bc1 E k body) alts step xs enc) (s : St) : R5 (Kc5 yb7 k keep alts step xs s) (K2 E k (.loop keep c) s) := fun r hr => by
 obtain ⟨t, h1, h2⟩ := w.go hr
 rw [Kc4, hN]
 exact pb9 hb.le _ _ _ (Fb1 h1 h2)
end
end Go.Ev.L
namespace Go.Ev.L
open Go Go.Ev
def Cps {π σ : Type} (u : ∀ {α : Type}, (σ → α) → (Nat → α) → α → π → σ → α) : Prop :=
 ∀ {α β : Type} (F : α → β) (k : σ → α) (e : Nat → α) (z : α) (p : π) (s : σ), F (u k e z p s) = u (fun x => F (k x)) (fun t => F (e t)) (F z) p s
@[reducible] noncomputable def foL {π σ : Type} (en : π → σ → St) (xs : Xs π σ) (p : π) (s : σ) : Stp σ → Option (d7 × St) := yb8 (fun s' => some (.normal, en p s')) (fun t => xOf xs p s t 1) none
structure Lo (π σ : Type) where
 E : Env
 k : Nat
 F : PFn
 at' : List Nat
 kp : List Nat
 rt : RT
 al : List (Al2 π σ)
 st : π → σ → Stp σ
 xs : Xs π σ
 en : π → σ → St
namespace Lo
variable {π σ : Type} (L : Lo π σ)
noncomputable def lc : PC := ve2 L.at' L.F.body
noncomputable def ls : St → DT (d7 × St) := Kc5 yb7 L.k L.kp L.al L.st L.xs
noncomputable def lsM : St → DT (d7 × St) := Kc5 dd8 L.k L.kp L.al L.st L.xs
noncomputable def pr : (St → DT (d7 × St)) × PC := (L.ls, .loop L.kp L.lc)
noncomputable def prM : (St → DT (d7 × St)) × PC := (L.lsM, .loopM L.kp L.lc)
def Ok : Prop := ∀ s, W8 L.k L.F.res (L.pr.1 s) (K2 L.E L.k L.pr.2 s)
def OkE : Prop := ∀ s, R5 (L.pr.1 s) (K2 L.E L.k L.pr.2 s)
def OkM : Prop := ∀ s, R5 (L.prM.1 s) (K2 L.E L.k L.prM.2 s)
def Rd (hd : St → DT St) (bd : St → DT (d7 × St)) (p : π) (s : σ) (a : St) (b : Stp σ) : Prop := (qb0 hd bd a).run = foL L.en L.xs p s b
def H0 : Prop := ∀ p s, L.Rd (yb7 L.k L.kp) (ud1 L.E L.k L.F.res (Cc2 L.rt L.lc)) p s (L.en p s) (L.st p s)
def H1 : Prop := ∀ p s, L.Rd (yb7 L.k L.kp) (bc1 L.E L.k (Ab2 L.rt L.lc)) p s (L.en p s) (L.st p s)
def H2 : Prop := ∀ p s, L.Rd (dd8 L.k L.kp) (bc1 L.E L.k (Ab2 L.rt L.lc)) p s (L.en p s) (L.st p s)
def HA : Prop := Ea7 (fun x => ∀ a H, (⟨Bd6 x.sh a, Bd7 x.bl H⟩ : St) = L.en (x.rd a H).1 (x.rd a H).2) L.al
variable {L}
theorem Rd.of {hd : St → DT St} {bd : St → DT (d7 × St)} {p : π} {s : σ} {a : St} (u : ∀ {α : Type}, (σ → α) → (Nat → α) → α → π → σ → α)
  (q : Cps @u) (H : (qb0 hd bd a).run = u (fun x => foL L.en L.xs p s (.next x)) (fun t => foL L.en L.xs p s (.exit t)) (foL L.en L.xs p s .fail) p s) : L.Rd hd bd p s a (u .next .exit .fail p s) :=
 H.trans (q (foL L.en L.xs p s) Stp.next Stp.exit Stp.fail p s).symm
theorem Rd.sel {hd : St → DT St} {bd : St → DT (d7 × St)} {p : π} {s : σ} {a1 a0 : St} {b1 b0 : Stp σ} (c : Bool) (h1 : L.Rd hd bd p s a1 b1) (h0 : L.Rd hd bd p s a0 b0) : L.Rd hd bd p s (sel c a1 a0) (sel c b1 b0) := by
 cases c with
 | true => exact h1
 | false => exact h0
theorem ok (l : List ((St → DT (d7 × St)) × PC)) (hs : Hb6 L.rt L.lc = l) (hl : Ea7 (fun x => ∀ s, W8 L.k L.F.res (x.1 s) (K2 L.E L.k x.2 s)) l) (hN : L.E.N = rounds + 1) (ha : L.HA) (h : L.H0) : L.Ok :=
 zb2.belowC (ud8 _ _ (by rw [hs]; exact hl)) hN ⟨ha, h⟩
theorem okE (l : List ((St → DT (d7 × St)) × PC)) (hs : Hb6 L.rt L.lc = l) (hl : Ea7 (fun x => ∀ s, R5 (x.1 s) (K2 L.E L.k x.2 s)) l) (hN : L.E.N = rounds + 1) (ha : L.HA) (h : L.H1) : L.OkE :=
 zb2.belowML (Rc8 _ _ (by rw [hs]; exact hl)) hN ⟨ha, h⟩
theorem okM (l : List ((St → DT (d7 × St)) × PC)) (hs : Hb6 L.rt L.lc = l) (hl : Ea7 (fun x => ∀ s, R5 (x.1 s) (K2 L.E L.k x.2 s)) l) (hN : L.E.N = rounds + 1) (ha : L.HA) (h : L.H2) : L.OkM :=
 zb2.belowM (Rc8 _ _ (by rw [hs]; exact hl)) hN ⟨ha, h⟩
end Lo
theorem xa1 {E : Env} {F : PFn} {args : List b7} {blks : List b8} {o : Option (b7 × List b8)} (rt : RT) (l : List ((St → DT (d7 × St)) × PC)) (hs : Hb6 rt F.body = l)
  (hl : Ea7 (fun x => ∀ s, W8 (len blks) F.res (x.1 s) (K2 E (len blks) x.2 s)) l) (h : (me8 E F (Cc2 rt F.body) args blks).run = o) (r : b7 × List b8) (hr : o = some r) : (j7 E F args blks).run = some r :=
 od6 (ud8 rt _ (by rw [hs]; exact hl)) r (h.trans hr)
theorem de3 {E : Env} {F : PFn} {args : List b7} {blks : List b8} {o : Option (b7 × List b8)} (rt : RT) (l : List ((St → DT (d7 × St)) × PC)) (hs : Hb6 rt F.body = l)
  (hl : Ea7 (fun x => ∀ s, R5 (x.1 s) (K2 E (len blks) x.2 s)) l) (h : (be6 E F (Ab2 rt F.body) args blks).run = o) (r : b7 × List b8) (hr : o = some r) : (Ab0 E F args blks).run = some r :=
 dd7 (Rc8 rt _ (by rw [hs]; exact hl)) r (h.trans hr)
theorem r5 {A o : Option (b7 × List b8)} (h : A = o) (r : b7 × List b8) (hr : o = some r) : A = some r := h.trans hr
end Go.Ev.L
namespace Go.Ev.Ce
structure V3 where
 x : Int
 y : Int
 z : Int
structure Pln where
 n : V3
 b : Int
structure Pt where
 px : Int
 py : Int
 pz : Int
 pw : Int
def E0 (a b : V3) : V3 := ⟨a.y * b.z - a.z * b.y, a.z * b.x - a.x * b.z, a.x * b.y - a.y * b.x⟩
def dot (a b : V3) : Int := a.x * b.x + a.y * b.y + a.z * b.z
def mw (p q r : Pln) : Int := dot p.n (E0 q.n r.n)
end Go.Ev.Ce
namespace Go.Ev.Ce
open Go Go.Ev Go.Ev.L Go.Proofs
@[reducible] noncomputable def prog : Program := Tryz.prog
noncomputable def G : Nat → List Value := fun _ => []
noncomputable def En (l : List (Nat × Sum)) : Env := { P := prog, G, fns := fun _ => none, call := ge0 l, own := fun f j => Bool.and (Na0 f [99, 103, 105, 135, 163, 198, 200, 202]) (Nat.beq j 0), N := 18446744073709551616 }
@[reducible] def u : b7 := .v (.tuple #[])
theorem se1 {l : List (Nat × Sum)} (h : j8 prog G l) : ∀ f, i5 (En l).P (En l).G f ((En l).call f) := td8 h
theorem bd {l : List (Nat × Sum)} {f : FuncId} {R : Env → Sum} (b : p9 prog f R) (h : j8 prog G l) : i5 prog G f (R (En l)) := b rfl (se1 h)
noncomputable def tV : Ty V3 where
 es := 3
 row x := [i x.x, i x.y, i x.z]
 rd r := ⟨toI (hdA r), toI (hdA (tlA r)), toI (hdA (tlA (tlA r)))⟩
 ok r := pa7 3 r
 cks := List.replicate 3 (.int .i64)
 d := ⟨0, 0, 0⟩
 h0 _ := rfl
 h1 _ := rfl
 h2 _ := rfl
 h3 _ h := .of (Ca7 h)
 h4 _ := rfl
 h5 _ := rfl
noncomputable def r1V : R1 V3 := r1A tV 3 fun _ h => h
noncomputable def tP : Ty Pln where
 es := 4
 row x := [i x.n.x, i x.n.y, i x.n.z, i x.b]
 rd r := ⟨⟨toI (hdA r), toI (hdA (tlA r)), toI (hdA (tlA (tlA r)))⟩, toI (hdA (tlA (tlA (tlA r))))⟩
 ok r := pa7 4 r
 cks := List.replicate 4 (.int .i64)
 d := ⟨⟨0, 0, 0⟩, 0⟩
 h0 _ := rfl
 h1 _ := rfl
 h2 _ := rfl
 h3 _ h := .of (Ca7 h)
 h4 _ := rfl
 h5 _ := rfl
noncomputable def r1P : R1 Pln := r1A tP 4 fun _ h => h
noncomputable def tX : Ty Pt where
 es := 4
 row x := [i x.px, i x.py, i x.pz, i x.pw]
 rd r := ⟨toI (hdA r), toI (hdA (tlA r)), toI (hdA (tlA (tlA r))), toI (hdA (tlA (tlA (tlA r))))⟩
 ok r := pa7 4 r
 cks := List.replicate 4 (.int .i64)
 d := ⟨0, 0, 0, 0⟩
 h0 _ := rfl
 h1 _ := rfl
 h2 _ := rfl
 h3 _ h := .of (Ca7 h)
 h4 _ := rfl
 h5 _ := rfl
noncomputable def r1X : R1 Pt := r1A tX 4 fun _ h => h
structure Tp where
 p : Pln
 q : Pln
 r : Pln
noncomputable def tY : Ty Tp where
 es := 12
 row x := [i x.p.n.x, i x.p.n.y, i x.p.n.z, i x.p.b, i x.q.n.x, i x.q.n.y, i x.q.n.z, i x.q.b, i x.r.n.x, i x.r.n.y, i x.r.n.z, i x.r.b]
 rd r := ⟨⟨⟨toI (hdA r), toI (hdA (tlA r)), toI (hdA (tlA (tlA r)))⟩, toI (hdA (tlA (tlA (tlA r))))⟩, ⟨⟨toI (hdA (tlA (tlA (tlA (tlA r))))), toI (hdA (tlA (tlA (tlA (tlA (tlA r)))))), toI (hdA (tlA (tlA (tlA (tlA (tlA (tlA r)))))))⟩, toI (hdA (tlA (tlA (tlA (tlA (tlA (tlA (tlA r))))))))⟩, ⟨⟨toI (hdA (tlA (tlA (tlA (tlA (tlA (tlA (tlA (tlA r))))))))), toI (hdA (tlA (tlA (tlA (tlA (tlA (tlA (tlA (tlA (tlA r)))))))))), toI (hdA (tlA (tlA (tlA (tlA (tlA (tlA (tlA (tlA (tlA (tlA r)))))))))))⟩, toI (hdA (tlA (tlA (tlA (tlA (tlA (tlA (tlA (tlA (tlA (tlA (tlA r))))))))))))⟩⟩
 ok r := pa7 12 r
 cks := List.replicate 12 (.int .i64)
 d := ⟨⟨⟨0, 0, 0⟩, 0⟩, ⟨⟨0, 0, 0⟩, 0⟩, ⟨⟨0, 0, 0⟩, 0⟩⟩
 h0 _ := rfl
 h1 _ := rfl
 h2 _ := rfl
 h3 _ h := .of (Ca7 h)
 h4 _ := rfl
 h5 _ := rfl
structure Q2 where
 a : V3
 b : V3
noncomputable def tQ : Ty Q2 where
 es := 6
 row x := [i x.a.x, i x.a.y, i x.a.z, i x.b.x, i x.b.y, i x.b.z]
 rd r := ⟨⟨toI (hdA r), toI (hdA (tlA r)), toI (hdA (tlA (tlA r)))⟩, ⟨toI (hdA (tlA (tlA (tlA r)))), toI (hdA (tlA (tlA (tlA (tlA r))))), toI (hdA (tlA (tlA (tlA (tlA (tlA r))))))⟩⟩
 ok r := pa7 6 r
 cks := List.replicate 6 (.int .i64)
 d := ⟨⟨0, 0, 0⟩, ⟨0, 0, 0⟩⟩
 h0 _ := rfl
 h1 _ := rfl
 h2 _ := rfl
 h3 _ h := .of (Ca7 h)
 h4 _ := rfl
 h5 _ := rfl
end Go.Ev.Ce
