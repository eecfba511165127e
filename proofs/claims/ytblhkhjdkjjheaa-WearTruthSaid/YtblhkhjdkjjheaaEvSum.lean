/- Summaries of functions and of loops (own work). -/
import Derived.Test.YtblhkhjdkjjheaaEvTop
set_option linter.unusedVariables false
set_option linter.unusedSimpArgs false
set_option linter.unnecessarySimpa false
set_option linter.unusedSectionVars false
namespace Go.Ev
open Go

abbrev Sum := List AVal → List ABlk → DT (AVal × List ABlk)

theorem FnOk.body {E : Env} {P : Program} {f : FuncId} {fn : Func} {pf : PFn} (hP : E.P = P) (hm : P.follows .mixedOrders = true) (hf : P.funcs[f]? = some fn) (hn : fn.name ≠ "runtime.NumGoroutine")
    (hc : compile P fn = some pf) (hcalls : ∀ g, FnOk E.P E.G g (E.call g)) : FnOk E.P E.G f (runFn E pf) := by
  subst hP
  exact runFn_ok hf hn hc hcalls (drawOk hm hcalls)

/-- one abstract value says at least what another one says -/
def ALe (x y : AVal) : Prop := ∀ ρ H F w v, WRel ρ H F w x v → WRel ρ H F w y v
theorem ALe.refl (x : AVal) : ALe x x := fun _ _ _ _ _ h => h
inductive ALes : List AVal → List AVal → Prop
  | nil : ALes [] []
  | cons {x y l r} (h : ALe x y) (t : ALes l r) : ALes (x :: l) (y :: r)
theorem ALes.refl : ∀ l, ALes l l
  | [] => .nil
  | x :: l => .cons (.refl x) (ALes.refl l)
theorem ALes.length {l r} (h : ALes l r) : l.length = r.length := by induction h <;> simp_all
theorem ALes.get {l r} (h : ALes l r) : ∀ (i : Nat) y, r[i]? = some y → ∃ x, l[i]? = some x ∧ ALe x y := by
  induction h with
  | nil => intro i y hy; simp at hy
  | cons h t ih =>
    intro i y hy
    cases i with
    | zero => simp at hy; subst hy; exact ⟨_, rfl, h⟩
    | succ i => simpa using ih i y (by simpa using hy)

theorem FnOk.refine {P : Program} {G : Nat → List Value} {f : FuncId} {S S' : Sum} (h : FnOk P G f S)
    (hr : ∀ args blks r, (S' args blks).run = some r → ∃ args2, ALes args args2 ∧ (S args2 blks).run = some r) : FnOk P G f S' := by
  intro args blks r out he W ρ F w args' hH hlen hargs hG
  obtain ⟨args2, ha, he2⟩ := hr args blks _ he
  refine h args2 blks r out he2 W ρ F w args' hH (ha.length ▸ hlen) (fun i y x' hy hx' => ?_) hG
  obtain ⟨x, hx, hle⟩ := ha.get i y hy
  exact hle _ _ _ _ _ (hargs i x x' hx hx')

/-! ### tables of summaries -/
noncomputable def look (l : List (Nat × Sum)) : FuncId → Sum :=
  List.rec (motive := fun _ => FuncId → Sum) (fun _ _ _ => .fail) (fun p _ ih f => Bool.rec (motive := fun _ => Sum) (ih f) p.2 (Nat.beq p.1 f)) l
def TblOk (P : Program) (G : Nat → List Value) : List (Nat × Sum) → Prop
  | [] => True
  | p :: l => FnOk P G p.1 p.2 ∧ TblOk P G l
theorem look_ok {P : Program} {G : Nat → List Value} : ∀ {l : List (Nat × Sum)}, TblOk P G l → ∀ f, FnOk P G f (look l f)
  | [], _, f => fun args blks r out h => by cases h
  | (n, S) :: l, h, f => by
    show FnOk P G f (Bool.rec (motive := fun _ => Sum) (look l f) S (Nat.beq n f))
    cases hb : Nat.beq n f with
    | false => exact look_ok h.2 f
    | true => rw [← Nat.eq_of_beq_eq_true hb]; exact h.1

/-! ### summaries of loops -/
inductive PS where
  | pc (c : PC)
  | seq (a b : PS)
  | cond (c : Arg) (x y : PS)
  | block (id : Nat) (c : PS)
  | loop (keep : List Nat) (c : PS)
  | sum (S : St → DT (XExit × St))

noncomputable def execS (E : Env) (k : Nat) (c : PS) : St → DT (XExit × St) :=
  PS.rec (motive := fun _ => St → DT (XExit × St))
    (fun c => exec E k c)
    (fun _ _ x y s => (x s).bind fun r => XExit.rec (motive := fun _ => DT (XExit × St)) (y r.2) (fun id => .ret (.exit id, r.2)) (.ret (.ret, r.2)) r.1)
    (fun c _ _ x y s => match evalA E s.a c with
      | .v (.bool b) => .ite b (x s) (y s)
      | _ => .fail)
    (fun id _ x s => (x s).bind fun r => XExit.rec (motive := fun _ => DT (XExit × St)) (.ret (.normal, r.2))
      (fun id' => Bool.rec (.ret (.exit id', r.2)) (.ret (.normal, r.2)) (Nat.beq id' id)) (.ret (.ret, r.2)) r.1)
    (fun keep _ x => iter (fun s => tidy k ⟨keepFrom keep s.a 0, s.H⟩) x E.N)
    (fun S => S) c

/-- x answers at least as y does -/
def Below {α : Type} (x y : DT α) : Prop := ∀ r, x.run = some r → y.run = some r
theorem Below.refl {α : Type} (x : DT α) : Below x x := fun _ h => h
theorem Below.bind {α β : Type} {x y : DT α} {f g : α → DT β} (h : Below x y) (hf : ∀ a, Below (f a) (g a)) : Below (x.bind f) (y.bind g) := fun r hr => by
  obtain ⟨a, h1, h2⟩ := DT.run_bind_some hr
  rw [DT.run_bind, h a h1]
  exact hf a r h2
theorem Below.ite {α : Type} {b : Bool} {x y x' y' : DT α} (h : Below x x') (h' : Below y y') : Below (.ite b x y) (.ite b x' y') := fun r hr => by
  rw [DT.run_ite] at hr ⊢
  split at hr
  · next hb => simpa [hb] using h r hr
  · next hb => simpa [hb] using h' r hr
theorem Below.fail {α : Type} (y : DT α) : Below .fail y := fun _ h => by cases h

theorem iter_below {head : St → DT St} {body body' : St → DT (XExit × St)} (h : ∀ s, Below (body s) (body' s)) : ∀ n s, Below (iter head body n s) (iter head body' n s)
  | 0, s => .refl _
  | n + 1, s => by
    show Below ((head s).bind fun s => (body s).bind _) ((head s).bind fun s => (body' s).bind _)
    refine Below.bind (.refl _) fun s => (h s).bind fun r => ?_
    rcases r with ⟨x, s'⟩
    cases x with
    | normal => exact iter_below h n s'
    | exit id => exact .refl _
    | ret => exact .refl _

inductive Stands (E : Env) (k : Nat) : PS → PC → Prop
  | pc (c : PC) : Stands E k (.pc c) c
  | seq {a b : PS} {a' b' : PC} (h : Stands E k a a') (h' : Stands E k b b') : Stands E k (.seq a b) (.seq a' b')
  | cond (c : Arg) {a b : PS} {a' b' : PC} (h : Stands E k a a') (h' : Stands E k b b') : Stands E k (.cond c a b) (.cond c a' b')
  | block (id : Nat) {a : PS} {a' : PC} (h : Stands E k a a') : Stands E k (.block id a) (.block id a')
  | loop (keep : List Nat) {a : PS} {a' : PC} (h : Stands E k a a') : Stands E k (.loop keep a) (.loop keep a')
  | sum {S : St → DT (XExit × St)} {c : PC} (h : ∀ s, Below (S s) (exec E k c s)) : Stands E k (.sum S) c

theorem Stands.le {E : Env} {k : Nat} {a : PS} {c : PC} (h : Stands E k a c) : ∀ s, Below (execS E k a s) (exec E k c s) := by
  induction h with
  | pc c => exact fun s => .refl _
  | seq h h' ih ih' =>
    intro s
    refine (ih s).bind fun r => ?_
    rcases r with ⟨x, s'⟩
    cases x with
    | normal => exact ih' s'
    | exit id => exact .refl _
    | ret => exact .refl _
  | cond c h h' ih ih' =>
    intro s
    show Below (match evalA E s.a c with | .v (.bool b) => _ | _ => _) (match evalA E s.a c with | .v (.bool b) => _ | _ => _)
    split
    · exact .ite (ih s) (ih' s)
    · exact .fail _
  | block id h ih => exact fun s => (ih s).bind fun r => .refl _
  | loop keep h ih => exact fun s => iter_below ih _ s
  | sum h => exact h

/-- a function's run, with its loops summed up -/
noncomputable def runS (E : Env) (fn : PFn) (body : PS) (args : List AVal) (blks : List ABlk) : DT (AVal × List ABlk) :=
  (execS E (len blks) body ⟨app args (List.replicate (fn.ntmps - len args) (.v (.tuple #[]))), blks⟩).bind fun r =>
    match r.1 with
    | .exit _ => .fail
    | _ => match mapO (resVar r.2.a r.2.H) fn.res with
      | some l => finish (len blks) r.2.H (resVal l)
      | none => .fail
theorem runS_below {E : Env} {fn : PFn} {body : PS} {args : List AVal} {blks : List ABlk} (h : Stands E (len blks) body fn.body) : Below (runS E fn body args blks) (runFn E fn args blks) :=
  Below.bind (h.le _) fun _ => .refl _

/-! ### loops -/
/-- from one head to the next -/
noncomputable def roundOf (head : St → DT St) (body : St → DT (XExit × St)) (s : St) : DT (XExit × St) :=
  (body s).bind fun r => XExit.rec (motive := fun _ => DT (XExit × St)) ((head r.2).bind fun s => .ret (.normal, s)) (fun id => .ret (.exit id, r.2)) (.ret (.ret, r.2)) r.1
/-- at the loop's head, behind the tidying; n more rounds may come -/
noncomputable def atHead (head : St → DT St) (body : St → DT (XExit × St)) (n : Nat) (s : St) : DT (XExit × St) :=
  (body s).bind fun r => XExit.rec (motive := fun _ => DT (XExit × St)) (iter head body n r.2) (fun id => .ret (.exit id, r.2)) (.ret (.ret, r.2)) r.1
theorem iter_head {head : St → DT St} {body : St → DT (XExit × St)} {n : Nat} {s t : St} {r : XExit × St} (h : (head s).run = some t) (h2 : (atHead head body n t).run = some r) : (iter head body (n + 1) s).run = some r := by
  show ((head s).bind fun s => atHead head body n s).run = some r
  rw [DT.run_bind, h]
  exact h2
theorem at_next {head : St → DT St} {body : St → DT (XExit × St)} {n : Nat} {s t : St} {r : XExit × St} (h : (roundOf head body s).run = some (.normal, t)) (h2 : (atHead head body n t).run = some r) : (atHead head body (n + 1) s).run = some r := by
  obtain ⟨⟨x, s1⟩, h3, h4⟩ := DT.run_bind_some h
  cases x with
  | normal =>
    obtain ⟨t', h5, h6⟩ := DT.run_bind_some h4
    cases h6
    show ((body s).bind _).run = _
    rw [DT.run_bind, h3]
    exact iter_head h5 h2
  | exit id => cases h4
  | ret => cases h4
theorem at_stop {head : St → DT St} {body : St → DT (XExit × St)} {n : Nat} {s t : St} {x : XExit} (h : (roundOf head body s).run = some (x, t)) (hx : x ≠ .normal) : (atHead head body n s).run = some (x, t) := by
  obtain ⟨⟨y, s1⟩, h3, h4⟩ := DT.run_bind_some h
  cases y with
  | normal =>
    obtain ⟨t', h5, h6⟩ := DT.run_bind_some h4
    cases h6
    exact absurd rfl hx
  | exit id =>
    show ((body s).bind _).run = _
    rw [DT.run_bind, h3]
    exact h4
  | ret =>
    show ((body s).bind _).run = _
    rw [DT.run_bind, h3]
    exact h4
@[reducible] noncomputable def headOf (k : Nat) (keep : List Nat) (s : St) : DT St := tidy k ⟨keepFrom keep s.a 0, s.H⟩
theorem exec_loop (E : Env) (k : Nat) (keep : List Nat) (c : PC) (s : St) : exec E k (.loop keep c) s = iter (headOf k keep) (exec E k c) E.N s := rfl
/-- a loop's run, its body with its own loops summed up -/
theorem loop_of {E : Env} {k : Nat} {keep : List Nat} {c : PC} {body : PS} (hb : Stands E k body c) {n : Nat} (hN : E.N = n + 1) {s t : St} {r : XExit × St} (h : (headOf k keep s).run = some t)
    (h2 : (atHead (headOf k keep) (execS E k body) n t).run = some r) : (exec E k (.loop keep c) s).run = some r := by
  rw [exec_loop, hN]
  exact iter_below hb.le _ _ _ (iter_head h h2)
/-- one round -/
@[reducible] noncomputable def roundE (E : Env) (k : Nat) (keep : List Nat) (body : PS) : St → DT (XExit × St) := roundOf (headOf k keep) (execS E k body)

/-! ### the shape of a state at a loop's head -/
inductive Sh where
  | unk
  | int
  | bool
  | tree (es : Nat)
  | ptr (id i c g : Nat)
@[reducible] noncomputable def slotA (a : List AVal) (n : Nat) : AVal := hdA (dropN a n)
@[reducible] noncomputable def elsA (H : List ABlk) (n : Nat) : List (List AVal) := List.rec (motive := fun _ => List (List AVal)) [] (fun x _ _ => x.elems) (dropN H n)

/-- one of two, by a bool -/
@[reducible] noncomputable def sel {α : Type} (c : Bool) (t e : α) : α := Bool.rec (motive := fun _ => α) e t c
/-! ### plain data -/
@[reducible] def i (n : Int) : AVal := .v (.int .i64 n)
@[reducible] def b (x : Bool) : AVal := .v (.bool x)
def dInt : AVal → Option Int
  | .v (.int .i64 n) => some n
  | _ => none
theorem dInt_eq {x : AVal} {n : Int} (h : dInt x = some n) : x = i n := by
  unfold dInt at h
  split at h
  · cases h; rfl
  · cases h
abbrev W (n : Int) : Int := IntKind.wrap .i64 n
end Go.Ev

