/- Plain data in and out of abstract values (own work). -/
import Derived.Test.YtblhkhjdkjjheaaEvSum
set_option linter.unusedVariables false
set_option linter.unusedSimpArgs false
set_option linter.unnecessarySimpa false
set_option linter.unusedSectionVars false
namespace Go.Ev
open Go

theorem mapO_inv {α β : Type} {f : α → Option β} {g : β → α} (hf : ∀ x y, f x = some y → x = g y) : ∀ {l : List α} {r : List β}, mapO f l = some r → l = r.map g
  | [], r, h => by
    have h : some [] = some r := h
    injection h with h; subst h; rfl
  | x :: l, r, h => by
    have h : Option.rec (motive := fun _ => Option (List β)) none (fun y => Option.rec (motive := fun _ => Option (List β)) none (fun r => some (y :: r)) (mapO f l)) (f x) = some r := h
    cases h1 : f x with
    | none => rw [h1] at h; cases h
    | some y =>
    cases h2 : mapO f l with
    | none => rw [h1, h2] at h; cases h
    | some r' =>
    rw [h1, h2] at h
    have h : some (y :: r') = some r := h
    injection h with h; subst h
    rw [List.map_cons, ← hf x y h1, ← mapO_inv hf h2]

/-- a type of plain data: how it lies in an abstract value -/
structure Cod (α : Type) where
  enc : α → AVal
  dec : AVal → Option α
  grd : AVal → Bool
  ok : ∀ x a, dec x = some a → grd x = true → ALe x (enc a)

noncomputable def dInts (x : AVal) : Option (List Int) := match x with
  | .agg l => mapO dInt l
  | _ => none
theorem dInts_eq {x : AVal} {l : List Int} (h : dInts x = some l) : x = .agg (l.map i) := by
  unfold dInts at h
  split at h
  · rw [mapO_inv (fun _ _ => dInt_eq) h]
  · cases h
theorem ALe.of {x y : AVal} (h : x = y) : ALe x y := h ▸ .refl x
def cI : Cod Int := ⟨i, dInt, fun _ => true, fun _ _ h _ => .of (dInt_eq h)⟩
theorem MRel.get {F : Fz} {w : World} {es n : Nat} {get get' : Nat → List AVal} {v : Value} (h : MRel F w (.tree es n get) v) (he : ∀ k, k < n → get' k = get k) : MRel F w (.tree es n get') v := by
  cases h with
  | tree _ _ _ a cap cs hs hcap hes hF hw hr =>
    refine .tree es n get' a cap cs hs hcap (fun i hi => by rw [he i hi]; exact hes i hi) hF hw (fun i c hi hc => ?_)
    have e := he i hi
    have hc' : c < (get i).length := by rw [← e]; exact hc
    have := hr i c hi hc'
    have e2 : (get' i)[c] = (get i)[c] := by congr 1
    rw [e2]; exact this
  | nil => exact .nil _ _
theorem ALe.tree {es n : Nat} {get get' : Nat → List AVal} (he : ∀ k, k < n → get' k = get k) : ALe (.tree es n get) (.tree es n get') := fun ρ H F w v h => .val (.cell (.mem ((inv_tree h).get he)))

/-- a slice of three numbers, and of one -/
def g3 (x y z : Int) : Nat → List AVal
  | 0 => [i x]
  | 1 => [i y]
  | _ => [i z]
def dOne : List AVal → Option Int
  | [x] => dInt x
  | _ => none
noncomputable def d3 (x : AVal) : Option (Int × Int × Int) := match x with
  | .tree 1 3 get => Option.rec (motive := fun _ => Option (Int × Int × Int)) none (fun a => Option.rec (motive := fun _ => Option (Int × Int × Int)) none (fun b => Option.rec (motive := fun _ => Option (Int × Int × Int)) none (fun c => some (a, b, c)) (dOne (get 2))) (dOne (get 1))) (dOne (get 0))
  | _ => none
noncomputable def d1 (x : AVal) : Option Int := match x with
  | .tree 1 1 get => dOne (get 0)
  | _ => none
/-- a slice of numbers, of whatever length -/
structure IL where
  n : Nat
  g : Nat → Int
def isOne : List AVal → Bool
  | [.v (.int .i64 _)] => true
  | _ => false
def okInts (n : Nat) (get : Nat → List AVal) : Bool := (List.range n).all fun k => isOne (get k)
@[reducible] def eIL (l : IL) : AVal := .tree 1 l.n (fun k => [i (l.g k)])
noncomputable def dIL (x : AVal) : Option IL := match x with
  | .tree 1 n get => some ⟨n, fun k => toI (hdA (get k))⟩
  | _ => none
def grdIL (x : AVal) : Bool := match x with
  | .tree _ n get => okInts n get
  | _ => false
theorem isOne_eq {l : List AVal} (h : isOne l = true) : l = [i (toI (hdA l))] := by
  unfold isOne at h
  split at h
  · rfl
  · cases h
noncomputable def cL : Cod IL := ⟨eIL, dIL, grdIL, fun x a h hg => by
  unfold dIL at h
  split at h
  · rename_i n get
    injection h with h; subst h
    refine .tree fun k hk => ?_
    have := List.all_eq_true.1 hg k (by simpa using hk)
    exact (isOne_eq this).symm
  · cases h⟩
/-- two slices of numbers in an array -/
structure LL where
  a : IL
  b : IL
theorem okInts_can (n : Nat) (g : Nat → Int) : okInts n (fun k => [i (g k)]) = true := by
  unfold okInts
  rw [List.all_eq_true]
  intro k _
  rfl
/-- one summary or another one, by a look at the arguments -/
noncomputable def altS (t : List AVal → Bool) (S S' : Sum) : Sum := fun args blks => Bool.rec (motive := fun _ => DT (AVal × List ABlk)) (S' args blks) (S args blks) (t args)
theorem altS_ok {P : Program} {G : Nat → List Value} {f : FuncId} {S S' : Sum} {t : List AVal → Bool} (h : FnOk P G f S) (h' : FnOk P G f S') : FnOk P G f (altS t S S') := by
  intro args blks r out he
  unfold altS at he
  cases ht : t args with
  | true => rw [ht] at he; exact h args blks r out he
  | false => rw [ht] at he; exact h' args blks r out he

noncomputable def onO {α : Type} (x : Option α) (k : α → DT (AVal × List ABlk)) : DT (AVal × List ABlk) := Option.rec (motive := fun _ => DT (AVal × List ABlk)) .fail k x
theorem onO_some {α : Type} {x : Option α} {k : α → DT (AVal × List ABlk)} {r : AVal × List ABlk} (h : (onO x k).run = some r) : ∃ a, x = some a ∧ (k a).run = some r := by
  cases x with
  | none => cases h
  | some a => exact ⟨a, rfl, h⟩

section
variable {α β γ δ : Type}
noncomputable def sum0 (k : DT (AVal × List ABlk)) : Sum := fun args blks => match args, blks with
  | [], [] => k
  | _, _ => .fail
noncomputable def sum1 (c : Cod α) (k : α → DT (AVal × List ABlk)) : Sum := fun args blks => match args, blks with
  | [x], [] => onO (c.dec x) fun a => .guard (c.grd x) (k a)
  | _, _ => .fail
noncomputable def sum2 (c : Cod α) (d : Cod β) (k : α → β → DT (AVal × List ABlk)) : Sum := fun args blks => match args, blks with
  | [x, y], [] => onO (c.dec x) fun a => onO (d.dec y) fun b => .guard (c.grd x) (.guard (d.grd y) (k a b))
  | _, _ => .fail
noncomputable def sum3 (c : Cod α) (d : Cod β) (e : Cod γ) (k : α → β → γ → DT (AVal × List ABlk)) : Sum := fun args blks => match args, blks with
  | [x, y, z], [] => onO (c.dec x) fun a => onO (d.dec y) fun b => onO (e.dec z) fun g => .guard (c.grd x) (.guard (d.grd y) (.guard (e.grd z) (k a b g)))
  | _, _ => .fail
variable {P : Program} {G : Nat → List Value} {f : FuncId} {R : Sum} {c : Cod α} {d : Cod β} {e : Cod γ} {c4 : Cod δ}
theorem FnOk.le {S' : Sum} (h : FnOk P G f R) (hr : ∀ args blks r, (S' args blks).run = some r → (R args blks).run = some r) : FnOk P G f S' :=
  h.refine fun args blks r hh => ⟨args, .refl _, hr args blks r hh⟩
theorem sum0_ok {k} (hb : FnOk P G f R) (h : ∀ r, k.run = some r → (R [] []).run = some r) : FnOk P G f (sum0 k) := hb.le fun args blks r hr => by
  unfold sum0 at hr
  split at hr
  · exact h r hr
  · cases hr
theorem sum1_ok {k : α → _} (hb : FnOk P G f R) (h : ∀ a r, (k a).run = some r → (R [c.enc a] []).run = some r) : FnOk P G f (sum1 c k) := hb.refine fun args blks r hr => by
  unfold sum1 at hr
  split at hr
  · obtain ⟨a, h1, hr⟩ := onO_some hr
    obtain ⟨g1, hr⟩ := DT.run_guard_some hr
    exact ⟨_, .cons (c.ok _ a h1 g1) .nil, h a r hr⟩
  · cases hr
theorem sum2_ok {k : α → β → _} (hb : FnOk P G f R) (h : ∀ a b r, (k a b).run = some r → (R [c.enc a, d.enc b] []).run = some r) : FnOk P G f (sum2 c d k) := hb.refine fun args blks r hr => by
  unfold sum2 at hr
  split at hr
  · obtain ⟨a, h1, hr⟩ := onO_some hr
    obtain ⟨b, h2, hr⟩ := onO_some hr
    obtain ⟨g1, hr⟩ := DT.run_guard_some hr
    obtain ⟨g2, hr⟩ := DT.run_guard_some hr
    exact ⟨_, .cons (c.ok _ a h1 g1) (.cons (d.ok _ b h2 g2) .nil), h a b r hr⟩
  · cases hr
theorem sum3_ok {k : α → β → γ → _} (hb : FnOk P G f R) (h : ∀ a b g r, (k a b g).run = some r → (R [c.enc a, d.enc b, e.enc g] []).run = some r) : FnOk P G f (sum3 c d e k) := hb.refine fun args blks r hr => by
  unfold sum3 at hr
  split at hr
  · obtain ⟨a, h1, hr⟩ := onO_some hr
    obtain ⟨b, h2, hr⟩ := onO_some hr
    obtain ⟨g, h3, hr⟩ := onO_some hr
    obtain ⟨g1, hr⟩ := DT.run_guard_some hr
    obtain ⟨g2, hr⟩ := DT.run_guard_some hr
    obtain ⟨g3, hr⟩ := DT.run_guard_some hr
    exact ⟨_, .cons (c.ok _ a h1 g1) (.cons (d.ok _ b h2 g2) (.cons (e.ok _ g h3 g3) .nil)), h a b g r hr⟩
  · cases hr
end
theorem run_grd {α : Type} (g : Bool) (x : α) : (DT.guard g (.ret x)).run = sel g (some x) none := by cases g <;> rfl
end Go.Ev

