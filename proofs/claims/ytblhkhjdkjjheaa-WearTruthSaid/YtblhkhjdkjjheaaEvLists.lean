/- The evaluator's list functions are the usual ones (own work). -/
import Derived.Test.YtblhkhjdkjjheaaEvCore
set_option linter.unusedVariables false
set_option linter.unusedSimpArgs false
set_option linter.unnecessarySimpa false
set_option linter.unusedSectionVars false
namespace Go.Ev
open Go
section
variable {α β : Type}
theorem nth_eq (l : List α) (n : Nat) : nth l n = l[n]? := by
  induction l generalizing n with
  | nil => rfl
  | cons x r ih => cases n with
    | zero => rfl
    | succ n => exact (ih n).trans (by simp)
theorem setAt_eq (l : List α) (n : Nat) (x : α) : setAt l n x = l.set n x := by
  induction l generalizing n with
  | nil => rfl
  | cons y r ih => cases n with
    | zero => rfl
    | succ n => exact congrArg (y :: ·) (ih n)
theorem takeN_eq (l : List α) (n : Nat) : takeN l n = l.take n := by
  induction l generalizing n with
  | nil => exact (List.take_nil).symm
  | cons y r ih => cases n with
    | zero => rfl
    | succ n => exact congrArg (y :: ·) (ih n)
theorem dropN_eq (l : List α) (n : Nat) : dropN l n = l.drop n := by
  induction l generalizing n with
  | nil => exact (List.drop_nil).symm
  | cons y r ih => cases n with
    | zero => rfl
    | succ n => exact ih n
theorem app_eq (l r : List α) : app l r = l ++ r := by
  induction l with
  | nil => rfl
  | cons x l ih => exact congrArg (x :: ·) ih
theorem len_eq (l : List α) : len l = l.length := by
  induction l with
  | nil => rfl
  | cons x l ih => exact congrArg Nat.succ ih
theorem mapL_eq (f : α → β) (l : List α) : mapL f l = l.map f := by
  induction l with
  | nil => rfl
  | cons x l ih => exact congrArg (f x :: ·) ih
theorem mapO_cons (f : α → Option β) (x : α) (l : List α) : mapO f (x :: l) = (match f x with | some y => (match mapO f l with | some r => some (y :: r) | none => none) | none => none) := by
  have : mapO f (x :: l) = Option.rec (motive := fun _ => Option (List β)) none (fun y => Option.rec (motive := fun _ => Option (List β)) none (fun r => some (y :: r)) (mapO f l)) (f x) := rfl
  rw [this]
  cases f x with
  | none => rfl
  | some y => cases mapO f l <;> rfl
theorem mapO_some {f : α → Option β} {l : List α} {r : List β} (h : mapO f l = some r) : r.length = l.length ∧ ∀ (i : Nat) (x : α), l[i]? = some x → ∃ y, f x = some y ∧ r[i]? = some y := by
  induction l generalizing r with
  | nil => have : r = [] := by injection h with h; exact h.symm
           subst this; simp
  | cons x l ih =>
    have h' := h
    rw [mapO_cons] at h'
    cases hf : f x with
    | none => simp [hf] at h'
    | some y =>
      cases hm : mapO f l with
      | none => simp [hf, hm] at h'
      | some r' =>
        simp [hf, hm] at h'
        subst h'
        obtain ⟨h1, h2⟩ := ih hm
        refine ⟨by simp [h1], fun i z hz => ?_⟩
        cases i with
        | zero => simp at hz; subst hz; exact ⟨y, hf, by simp⟩
        | succ i => simp at hz; simpa using h2 i z hz
theorem memN_eq (k : Nat) (l : List Nat) : memN k l = l.contains k := by
  induction l with
  | nil => simp [memN]
  | cons x l ih =>
    have : memN k (x :: l) = (match Nat.beq x k with | true => true | false => memN k l) := by
      have : memN k (x :: l) = Bool.rec (memN k l) true (Nat.beq x k) := rfl
      rw [this]; cases Nat.beq x k <;> rfl
    rw [this, ih]
    cases h : Nat.beq x k with
    | true => have := Nat.eq_of_beq_eq_true h; subst this; simp
    | false => have : x ≠ k := Nat.ne_of_beq_eq_false h; simp; intro h; exact absurd h.symm this
end
namespace DT
variable {α β γ : Type}
@[simp] theorem bind_ret (a : α) (f : α → DT β) : (DT.ret a).bind f = f a := rfl
@[simp] theorem bind_fail (f : α → DT β) : (DT.fail : DT α).bind f = .fail := rfl
@[simp] theorem bind_ite (b : Bool) (t e : DT α) (f : α → DT β) : (DT.ite b t e).bind f = .ite b (t.bind f) (e.bind f) := rfl
@[simp] theorem run_ret (a : α) : (DT.ret a).run = some a := rfl
@[simp] theorem run_fail : (DT.fail : DT α).run = none := rfl
theorem run_ite (b : Bool) (t e : DT α) : (DT.ite b t e).run = if b then t.run else e.run := by cases b <;> rfl
theorem run_bind (x : DT α) (f : α → DT β) : (x.bind f).run = x.run.bind fun a => (f a).run := by
  induction x with
  | ret a => rfl
  | fail => rfl
  | ite b t e iht ihe => cases b <;> simp [run_ite, iht, ihe]
theorem run_bind_some {x : DT α} {f : α → DT β} {r : β} (h : (x.bind f).run = some r) : ∃ a, x.run = some a ∧ (f a).run = some r := by
  rw [run_bind] at h
  cases hx : x.run with
  | none => simp [hx] at h
  | some a => exact ⟨a, rfl, by simpa [hx] using h⟩
theorem run_ite_some {b : Bool} {t e : DT α} {r : α} (h : (DT.ite b t e).run = some r) : (b = true ∧ t.run = some r) ∨ (b = false ∧ e.run = some r) := by
  cases b
  · exact .inr ⟨rfl, by simpa [run_ite] using h⟩
  · exact .inl ⟨rfl, by simpa [run_ite] using h⟩
theorem run_guard_some {b : Bool} {t : DT α} {r : α} (h : (DT.guard b t).run = some r) : b = true ∧ t.run = some r := by
  rcases run_ite_some h with h | ⟨_, h⟩
  · exact h
  · cases h
end DT
theorem opt_run {x : Option AVal} {H : List ABlk} {r : AVal × List ABlk} (h : (opt x H).run = some r) : ∃ y, x = some y ∧ r = (y, H) := by
  cases x with
  | none => cases h
  | some y => exact ⟨y, rfl, by simpa [opt, DT.run] using h.symm⟩
theorem opt2_run {x : Option (AVal × List ABlk)} {r : AVal × List ABlk} (h : (opt2 x).run = some r) : x = some r := by
  cases x with
  | none => cases h
  | some y => simpa [opt2, DT.run] using h
end Go.Ev

