/- A region in whatever order: lists, masks, who comes before whom (own work). -/
import Derived.Test.YthbcfinnphpcbaaDoorEvTouch
namespace Go.Ev
open Go

/-! ### a run of operations, place by place -/
theorem evalOps_append {E : Env} : ∀ (l r : List PI) (s : St), evalOps E (l ++ r) s = (evalOps E l s).bind (evalOps E r)
  | [], r, s => rfl
  | p :: l, r, s => by
    have e1 : evalOps E (p :: l ++ r) s = (evalPI E s p).bind (evalOps E (l ++ r)) := rfl
    have e2 : evalOps E (p :: l) s = (evalPI E s p).bind (evalOps E l) := rfl
    rw [e1, e2]
    have : evalOps E (l ++ r) = fun s => (evalOps E l s).bind (evalOps E r) := funext fun s => evalOps_append l r s
    rw [this]
    generalize evalPI E s p = d
    induction d with
    | ret x => rfl
    | fail => rfl
    | ite b t e iht ihe => simp only [DT.bind_ite, iht, ihe]
def StepAt (E : Env) (f : Nat → Option PI) (T : Nat → St) (j : Nat) : Prop := match f j with
  | some p => (evalPI E (T j) p).run = some (T (j + 1))
  | none => T (j + 1) = T j
theorem evalOps_traj {E : Env} (f : Nat → Option PI) : ∀ (n : Nat) (s s' : St), (evalOps E ((List.range n).filterMap f) s).run = some s' → ∃ T : Nat → St, T 0 = s ∧ T n = s' ∧ ∀ j, j < n → StepAt E f T j
  | 0, s, s', h => ⟨fun _ => s, rfl, by simpa [evalOps] using h, fun j hj => by omega⟩
  | n + 1, s, s', h => by
    rw [List.range_succ, List.filterMap_append, evalOps_append] at h
    obtain ⟨s1, h1, h2⟩ := DT.run_bind_some h
    obtain ⟨T, t0, t1, t2⟩ := evalOps_traj f n s s1 h1
    refine ⟨fun j => if j ≤ n then T j else s', by simp [t0], if_neg (by omega), fun j hj => ?_⟩
    unfold StepAt
    by_cases hjn : j < n
    · have := t2 j hjn
      unfold StepAt at this
      simp only [show j ≤ n from by omega, show j + 1 ≤ n from by omega, if_true]
      exact this
    · have : j = n := by omega
      subst this
      simp only [Nat.le_refl, if_true, show ¬ (j + 1 ≤ j) from by omega, if_false, t1]
      cases hf : f j with
      | none =>
        simp only [List.filterMap_cons, hf, List.filterMap_nil] at h2
        have h2' : some s1 = some s' := h2
        injection h2' with h2'
        exact h2'.symm
      | some p =>
        simp only [List.filterMap_cons, hf, List.filterMap_nil] at h2
        have h2' : ((evalPI E s1 p).bind (evalOps E [])).run = some s' := h2
        obtain ⟨s2, h3, h4⟩ := DT.run_bind_some h2'
        have h4' : some s2 = some s' := h4
        injection h4' with h4'
        subst h4'
        exact h3

/-! ### heaps with some blocks dead, slots with some values gone -/
open Classical in
noncomputable def killP (H : List ABlk) (D : Nat → Prop) : List ABlk := H.mapIdx fun i b => if D i then { b with dead := true } else b
open Classical in
noncomputable def maskP (a b : List AVal) (D : Nat → Prop) : List AVal := a.mapIdx fun i x => if D i then (b[i]?).getD .unk else x

section
variable {H H' H0 : List ABlk} {D D' : Nat → Prop} {a c : List AVal}
theorem killP_len : (killP H D).length = H.length := by simp [killP]
theorem killP_off {i : Nat} (h : ¬ D i) : (killP H D)[i]? = H[i]? := by
  simp only [killP, List.getElem?_mapIdx, if_neg h]
  cases H[i]? <;> rfl
theorem killP_on {i : Nat} (h : D i) : (killP H D)[i]? = (H[i]?).map fun b => { b with dead := true } := by
  simp only [killP, List.getElem?_mapIdx, if_pos h]
theorem killP_live {i : Nat} {b : ABlk} (h : (killP H D)[i]? = some b) (hd : b.dead = false) : ¬ D i ∧ H[i]? = some b := by
  by_cases hD : D i
  · rw [killP_on hD] at h
    simp only [Option.map_eq_some_iff] at h
    obtain ⟨c, _, rfl⟩ := h
    cases hd
  · exact ⟨hD, by rwa [killP_off hD] at h⟩
theorem maskP_len : (maskP a c D).length = a.length := by simp [maskP]
theorem maskP_off {i : Nat} (h : ¬ D i) : (maskP a c D)[i]? = a[i]? := by
  simp only [maskP, List.getElem?_mapIdx, if_neg h]
  cases a[i]? <;> rfl
theorem maskP_on {i : Nat} (h : D i) (hi : i < a.length) : (maskP a c D)[i]? = some ((c[i]?).getD .unk) := by
  simp only [maskP, List.getElem?_mapIdx, if_pos h, List.getElem?_eq_getElem hi, Option.map_some]
theorem maskP_none (h : ∀ i, ¬ D i) : maskP a c D = a := List.ext_getElem? fun i => maskP_off (h i)
theorem killP_none (h : ∀ i, ¬ D i) : killP H D = H := List.ext_getElem? fun i => killP_off (h i)

theorem deaden_cons (H : List ABlk) (d : Nat) (l : List Nat) : deaden H (d :: l) = modAt (deaden H l) d fun b => { b with dead := true } := rfl
theorem deaden_len (l : List Nat) : (deaden H l).length = H.length := by
  induction l with
  | nil => rfl
  | cons d l ih => rw [deaden_cons, modAt_len, ih]
theorem modAt_at (H : List ABlk) (f : ABlk → ABlk) (d i : Nat) : (modAt H d f)[i]? = if d = i then (H[i]?).map f else H[i]? := by
  unfold modAt
  rw [nth_eq]
  by_cases e : d = i
  · subst e
    rw [if_pos rfl]
    cases h : H[d]? with
    | none => simp [h]
    | some b => simp only [setAt_eq]; rw [List.getElem?_set_self (List.getElem?_eq_some_iff.1 h).1]; rfl
  · rw [if_neg e]
    cases h : H[d]? with
    | none => rfl
    | some b => simp only [setAt_eq]; rw [List.getElem?_set_ne e]
theorem deaden_eq (l : List Nat) : deaden H l = killP H (· ∈ l) := by
  refine List.ext_getElem? fun i => ?_
  induction l with
  | nil => rw [killP_off (by simp)]; rfl
  | cons d l ih =>
    rw [deaden_cons, modAt_at, ih]
    by_cases e : d = i
    · subst e
      rw [if_pos rfl, killP_on (D := (· ∈ d :: l)) (by simp)]
      by_cases hd : d ∈ l
      · rw [killP_on hd]; cases H[d]? <;> rfl
      · rw [killP_off hd]
    · rw [if_neg e]
      by_cases hd : i ∈ l
      · rw [killP_on hd, killP_on (D := (· ∈ d :: l)) (by simp [hd])]
      · rw [killP_off hd, killP_off (D := (· ∈ d :: l)) (by simp [hd]; exact fun h => e h.symm)]
theorem revive_cons (H0 H : List ABlk) (d : Nat) (l : List Nat) : revive H0 H (d :: l) = match nth H0 d with
    | some b => setAt (revive H0 H l) d b
    | none => revive H0 H l := rfl
theorem revive_len (l : List Nat) : (revive H0 H l).length = H.length := by
  induction l with
  | nil => rfl
  | cons d l ih =>
    rw [revive_cons]
    split
    · rw [setAt_eq]; simp [ih]
    · exact ih
theorem revive_off {l : List Nat} {i : Nat} (h : i ∉ l) : (revive H0 H l)[i]? = H[i]? := by
  induction l with
  | nil => rfl
  | cons d l ih =>
    simp only [List.mem_cons, not_or] at h
    rw [revive_cons]
    split
    · rw [setAt_eq, List.getElem?_set_ne (fun e => h.1 e.symm)]; exact ih h.2
    · exact ih h.2
theorem revive_on {l : List Nat} {i : Nat} (h : i ∈ l) (h0 : i < H0.length) (h1 : i < H.length) : (revive H0 H l)[i]? = H0[i]? := by
  induction l with
  | nil => cases h
  | cons d l ih =>
    rw [revive_cons, nth_eq]
    by_cases e : d = i
    · subst e
      rw [List.getElem?_eq_getElem h0]
      simp only [setAt_eq]
      rw [List.getElem?_set_self (by rw [revive_len]; exact h1)]
    · have hm : i ∈ l := (List.mem_cons.1 h).resolve_left fun h => e h.symm
      split
      · rw [setAt_eq, List.getElem?_set_ne e]; exact ih hm
      · exact ih hm
end

/-! ### who comes before whom -/
section
variable {ops : Array Oper} {M : List Nat}
theorem mem_direct {o : Oper} {i : Nat} : i ∈ direct o ↔ ∃ e ∈ o.after, Region.binds .any e = true ∧ e.on = i := by
  simp [direct, and_assoc]
theorem rows_lt (h : rowsOk ops M = true) {j : Nat} {o : Oper} (ho : ops[j]? = some o) {i : Nat} (hi : i ∈ direct o) : i < j := by
  have hj := (Array.getElem?_eq_some_iff.1 ho).1
  have := List.all_eq_true.1 h j (List.mem_range.2 hj)
  simp only [ho, Bool.and_eq_true] at this
  have h2 := List.all_eq_true.1 this.1 i hi
  simpa [Nat.blt_eq] using h2
theorem rows_before (h : rowsOk ops M = true) (ex : Nat → Prop) (hex : ∀ (j : Nat) o, ops[j]? = some o → ex j → ∀ i ∈ direct o, ex i) :
    ∀ (j : Nat) (o : Oper), ops[j]? = some o → (∀ i ∈ direct o, ex i) → ∀ i, i < ops.size → isBefore M i j = true → ex i := by
  intro j
  induction j using Nat.strongRecOn with
  | _ j ih =>
    intro o ho hd i hi hb
    have hj := (Array.getElem?_eq_some_iff.1 ho).1
    have := List.all_eq_true.1 h j (List.mem_range.2 hj)
    simp only [ho, Bool.and_eq_true] at this
    have h2 := List.all_eq_true.1 this.2 i (List.mem_range.2 hi)
    unfold isBefore at hb
    rw [hb] at h2
    simp only [Bool.not_true, Bool.false_or, List.any_eq_true, Bool.or_eq_true] at h2
    obtain ⟨m, hm, h3⟩ := h2
    rcases h3 with h3 | h3
    · have := Nat.eq_of_beq_eq_true h3
      subst this
      exact hd m hm
    · have hlt := rows_lt h ho hm
      have hms : m < ops.size := by omega
      have hom : ops[m]? = some ops[m] := Array.getElem?_eq_getElem hms
      exact ih m hlt _ hom (hex m _ hom (hd m hm)) i hi h3
end
end Go.Ev
