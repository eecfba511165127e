/- A region in whatever order: lists, masks, who comes before whom (own work). -/
import Derived.Test.YtblhkhjdkjjheaaEvTouch
set_option linter.unusedVariables false
set_option linter.unusedSimpArgs false
set_option linter.unnecessarySimpa false
set_option linter.unusedSectionVars false
namespace Go.Ev
open Go

/-! ### a run of operations, place by place -/
theorem evalOps_append {E : Env} : ∀ (l r : List PI) (s : St), evalOps E (l ++ r) s = (evalOps E l s).bind (evalOps E r)
  | [], r, s => rfl
  | p :: l, r, s => by
    have e1 : evalOps E (p :: l ++ r) s = (evalPI E s p).bind (evalOps E (l ++ r)) := rfl
    have e2 : evalOps E (p :: l) s = (evalPI E s p).bind (evalOps E l) := rfl
    rw [e1, e2]
    have : evalOps E (l ++ r) = fun s => (evalOps E l s).bind (evalOps E r) := funext fun s => evalOps_append l r s
    rw [this]
    generalize evalPI E s p = d
    induction d with
    | ret x => rfl
    | fail => rfl
    | ite b t e iht ihe => simp only [DT.bind_ite, iht, ihe]
def StepAt (E : Env) (f : Nat → Option PI) (T : Nat → St) (j : Nat) : Prop := match f j with
  | some p => (evalPI E (T j) p).run = some (T (j + 1))
  | none => T (j + 1) = T j
theorem evalOps_traj {E : Env} (f : Nat → Option PI) : ∀ (n : Nat) (s s' : St), (evalOps E ((List.range n).filterMap f) s).run = some s' → ∃ T : Nat → St, T 0 = s ∧ T n = s' ∧ ∀ j, j < n → StepAt E f T j
  | 0, s, s', h => ⟨fun _ => s, rfl, by simpa [evalOps] using h, fun j hj => by omega⟩
  | n + 1, s, s', h => by
    rw [List.range_succ, List.filterMap_append, evalOps_append] at h
    obtain ⟨s1, h1, h2⟩ := DT.run_bind_some h
    obtain ⟨T, t0, t1, t2⟩ := evalOps_traj f n s s1 h1
    refine ⟨fun j => if j ≤ n then T j else s', by simp [t0], if_neg (by omega), fun j hj => ?_⟩
    unfold StepAt
    by_cases hjn : j < n
    · have := t2 j hjn
      unfold StepAt at this
      simp only [show j ≤ n from by omega, show j + 1 ≤ n from by omega, if_true]
      exact this
    · have : j = n := by omega
      subst this
      simp only [Nat.le_refl, if_true, show ¬ (j + 1 ≤ j) from by omega, if_false, t1]
      cases hf : f j with
      | none =>
        simp only [List.filterMap_cons, hf, List.filterMap_nil] at h2
        have h2' : some s1 = some s' := h2
        injection h2' with h2'
        exact h2'.symm
      | some p =>
        simp only [List.filterMap_cons, hf, List.filterMap_nil] at h2
        have h2' : ((evalPI E s1 p).bind (evalOps E [])).run = some s' := h2
        obtain ⟨s2, h3, h4⟩ := DT.run_bind_some h2'
        have h4' : some s2 = some s' := h4
        injection h4' with h4'
        subst h4'
        exact h3

/-! ### heaps with some blocks dead, slots with some values gone -/
open Classical in
noncomputable def killP (H : List ABlk) (D : Nat → Prop) : List ABlk := H.mapIdx fun i b => if D i then { b with dead := true } else b
open Classical in
noncomputable def maskP (a b : List AVal) (D : Nat → Prop) : List AVal := a.mapIdx fun i x => if D i then (b[i]?).getD .unk else x

section
variable {H H' H0 : List ABlk} {D D' : Nat → Prop} {a c : List AVal}
theorem killP_len : (killP H D).length = H.length := by simp [killP]
theorem killP_off {i : Nat} (h : ¬ D i) : (killP H D)[i]? = H[i]? := by
  simp only [killP, List.getElem?_mapIdx, if_neg h]
  cases H[i]? <;> rfl
theorem killP_on {i : Nat} (h : D i) : (killP H D)[i]? = (H[i]?).map fun b => { b with dead := true } := by
  simp only [killP, List.getElem?_mapIdx, if_pos h]
theorem killP_live {i : Nat} {b : ABlk} (h : (killP H D)[i]? = some b) (hd : b.dead = false) : ¬ D i ∧ H[i]? = some b := by
  by_cases hD : D i
  · rw [killP_on hD] at h
    simp only [Option.map_eq_some_iff] at h
    obtain ⟨c, _, rfl⟩ := h
    cases hd
  · exact ⟨hD, by rwa [killP_off hD] at h⟩
theorem maskP_len : (maskP a c D).length = a.length := by simp [maskP]
theorem maskP_off {i : Nat} (h : ¬ D i) : (maskP a c D)[i]? = a[i]? := by
  simp only [maskP, List.getElem?_mapIdx, if_neg h]
  cases a[i]? <;> rfl
theorem maskP_on {i : Nat} (h : D i) (hi : i < a.length) : (maskP a c D)[i]? = some ((c[i]?).getD .unk) := by
  simp only [maskP, List.getElem?_mapIdx, if_pos h, List.getElem?_eq_getElem hi, Option.map_some]
theorem maskP_none (h : ∀ i, ¬ D i) : maskP a c D = a := List.ext_getElem? fun i => maskP_off (h i)
theorem killP_none (h : ∀ i, ¬ D i) : killP H D = H := List.ext_getElem? fun i => killP_off (h i)

theorem deaden_cons (H : List ABlk) (d : Nat) (l : List Nat) : deaden H (d :: l) = modAt (deaden H l) d fun b => { b with dead := true } := rfl
theorem modAt_at (H : List ABlk) (f : ABlk → ABlk) (d i : Nat) : (modAt H d f)[i]? = if d = i then (H[i]?).map f else H[i]? := by
  unfold modAt
  rw [nth_eq]
  by_cases e : d = i
  · subst e
    rw [if_pos rfl]
    cases h : H[d]? with
    | none => simp [h]
    | some b => simp only [setAt_eq]; rw [List.getElem?_set_self (List.getElem?_eq_some_iff.1 h).1]; rfl
  · rw [if_neg e]
    cases h : H[d]? with
    | none => rfl
    | some b => simp only [setAt_eq]; rw [List.getElem?_set_ne e]
theorem deaden_eq (l : List Nat) : deaden H l = killP H (· ∈ l) := by
  refine List.ext_getElem? fun i => ?_
  induction l with
  | nil => rw [killP_off (by simp)]; rfl
  | cons d l ih =>
    rw [deaden_cons, modAt_at, ih]
    by_cases e : d = i
    · subst e
      rw [if_pos rfl, killP_on (D := (· ∈ d :: l)) (by simp)]
      by_cases hd : d ∈ l
      · rw [killP_on hd]; cases H[d]? <;> rfl
      · rw [killP_off hd]
    · rw [if_neg e]
      by_cases hd : i ∈ l
      · rw [killP_on hd, killP_on (D := (· ∈ d :: l)) (by simp [hd])]
      · rw [killP_off hd, killP_off (D := (· ∈ d :: l)) (by simp [hd]; exact fun h => e h.symm)]
theorem revive_cons (H0 H : List ABlk) (d : Nat) (l : List Nat) : revive H0 H (d :: l) = match nth H0 d with
    | some b => setAt (revive H0 H l) d b
    | none => revive H0 H l := rfl
theorem revive_len (l : List Nat) : (revive H0 H l).length = H.length := by
  induction l with
  | nil => rfl
  | cons d l ih =>
    rw [revive_cons]
    split
    · rw [setAt_eq]; simp [ih]
    · exact ih
theorem revive_off {l : List Nat} {i : Nat} (h : i ∉ l) : (revive H0 H l)[i]? = H[i]? := by
  induction l with
  | nil => rfl
  | cons d l ih =>
    simp only [List.mem_cons, not_or] at h
    rw [revive_cons]
    split
    · rw [setAt_eq, List.getElem?_set_ne (fun e => h.1 e.symm)]; exact ih h.2
    · exact ih h.2
theorem revive_on {l : List Nat} {i : Nat} (h : i ∈ l) (h0 : i < H0.length) (h1 : i < H.length) : (revive H0 H l)[i]? = H0[i]? := by
  induction l with
  | nil => cases h
  | cons d l ih =>
    rw [revive_cons, nth_eq]
    by_cases e : d = i
    · subst e
      rw [List.getElem?_eq_getElem h0]
      simp only [setAt_eq]
      rw [List.getElem?_set_self (by rw [revive_len]; exact h1)]
    · have hm : i ∈ l := (List.mem_cons.1 h).resolve_left fun h => e h.symm
      split
      · rw [setAt_eq, List.getElem?_set_ne e]; exact ih hm
      · exact ih hm
end

/-! ### who comes before whom -/
section
variable {ops : Array Oper} {M : List Nat}
theorem mem_direct {o : Oper} {i : Nat} : i ∈ direct o ↔ ∃ e ∈ o.after, Region.binds .any e = true ∧ e.on = i := by
  simp [direct, and_assoc]
theorem rows_lt (h : rowsOk ops M = true) {j : Nat} {o : Oper} (ho : ops[j]? = some o) {i : Nat} (hi : i ∈ direct o) : i < j := by
  have hj := (Array.getElem?_eq_some_iff.1 ho).1
  have := List.all_eq_true.1 h j (List.mem_range.2 hj)
  simp only [ho, Bool.and_eq_true] at this
  have h2 := List.all_eq_true.1 this.1 i hi
  simpa [Nat.blt_eq] using h2
theorem rows_before (h : rowsOk ops M = true) (ex : Nat → Prop) (hex : ∀ (j : Nat) o, ops[j]? = some o → ex j → ∀ i ∈ direct o, ex i) :
    ∀ (j : Nat) (o : Oper), ops[j]? = some o → (∀ i ∈ direct o, ex i) → ∀ i, i < ops.size → isBefore M i j = true → ex i := by
  intro j
  induction j using Nat.strongRecOn with
  | _ j ih =>
    intro o ho hd i hi hb
    have hj := (Array.getElem?_eq_some_iff.1 ho).1
    have := List.all_eq_true.1 h j (List.mem_range.2 hj)
    simp only [ho, Bool.and_eq_true] at this
    have h2 := List.all_eq_true.1 this.2 i (List.mem_range.2 hi)
    unfold isBefore at hb
    rw [hb] at h2
    simp only [Bool.not_true, Bool.false_or, List.any_eq_true, Bool.or_eq_true] at h2
    obtain ⟨m, hm, h3⟩ := h2
    rcases h3 with h3 | h3
    · have := Nat.eq_of_beq_eq_true h3
      subst this
      exact hd m hm
    · have hlt := rows_lt h ho hm
      have hms : m < ops.size := by omega
      have hom : ops[m]? = some ops[m] := Array.getElem?_eq_getElem hms
      exact ih m hlt _ hom (hex m _ hom (hd m hm)) i hi h3
end
end Go.Ev
namespace Go.Ev
open Go

/-! ### guards -/
noncomputable def gOut (E : Env) (a : List AVal) (g : Option (Nat × Bool)) : Option Bool :=
  match g with
  | none => some true
  | some (d, want) => match evalA E a (.t d) with
    | .v (.bool b) => some (match want with | true => b | false => !b)
    | .v (.tuple _) => some false
    | _ => none
section
variable {E : Env} {a a' : List AVal} {s s' : St} {p : PI}
theorem gOut_slots {g : Option (Nat × Bool)} (h : Agr a a' (gSlots g)) : gOut E a g = gOut E a' g := by
  cases g with
  | none => rfl
  | some g =>
    obtain ⟨d, want⟩ := g
    simp only [gOut]
    rw [Agr.t (E := E) (h d (by simp [gSlots]))]
theorem evalPI_cases (he : (evalPI E s p).run = some s') : ∃ b, gOut E s.a p.guard = some b ∧ (b = true → (doOp E s p).run = some s') ∧ (b = false → s' = ⟨putA s.a p.dst (.v (.tuple #[])), s.H⟩) := by
  obtain ⟨dst, g, hide, op⟩ := p
  cases g with
  | none => exact ⟨true, rfl, fun _ => he, fun h => by cases h⟩
  | some g =>
    obtain ⟨d, want⟩ := g
    rw [evalPI_some] at he
    simp only [gOut]
    revert he
    generalize evalA E s.a (.t d) = u
    intro he
    split at he
    · rename_i b
      rcases DT.run_ite_some he with ⟨h1, h2⟩ | ⟨h1, h2⟩
      · exact ⟨true, congrArg some h1, fun _ => h2, fun h => by cases h⟩
      · exact ⟨false, congrArg some h1, fun h => by (cases h), fun _ => by simpa using h2.symm⟩
    · exact ⟨false, rfl, fun h => by (cases h), fun _ => by simpa using he.symm⟩
    · cases he
theorem wanted_gOut {ρ : Rho} {H : List ABlk} {F : Fz} {w : World} {ops : Array Oper} {o : Oper} {g : Option (Nat × Bool)} {tmps : Array Value} {b : Bool} (hg : cGuard ops o = some g) (hA : ARel ρ H F w a tmps) (ho : gOut E a g = some b) :
    Region.wanted o (yielded ops tmps) = b := by
  unfold cGuard at hg
  unfold Region.wanted
  cases hgo : o.guard with
  | none =>
    simp only [hgo] at hg ⊢
    injection hg with hg
    subst hg
    injection ho
  | some jw =>
    obtain ⟨j, want⟩ := jw
    simp only [hgo] at hg ⊢
    cases hj : ops[j]? with
    | none => simp [hj] at hg
    | some oj =>
    simp only [hj] at hg
    cases hd : oj.dst with
    | none => simp [hd] at hg
    | some d =>
    simp only [hd] at hg
    injection hg with hg
    subst hg
    have hrel : ∀ v, evalA E a (.t d) = .v v → tmps[d]? = some v := fun v hv => by
      rw [evalA_t] at hv
      rcases Nat.lt_or_ge d a.length with hlt | hge
      · rw [List.getElem?_eq_getElem hlt] at hv
        have hlt' : d < tmps.size := hA.1 ▸ hlt
        have h1 := hA.2 d _ _ (List.getElem?_eq_getElem hlt) (Array.getElem?_eq_getElem hlt')
        simp only [Option.getD_some] at hv
        rw [hv] at h1
        rw [Array.getElem?_eq_getElem hlt', inv_v h1]
      · rw [List.getElem?_eq_none hge] at hv; cases hv
    simp only [gOut] at ho
    revert ho hrel
    generalize evalA E a (.t d) = u
    intro ho hrel
    split at ho
    · rename_i b'
      rw [yielded_bool hj hd (hrel _ rfl)]
      injection ho with ho
      subst ho
      cases want <;> cases b' <;> rfl
    · rename_i vs
      rw [yielded_tuple hj hd (hrel _ rfl)]
      injection ho with ho
    · cases ho

theorem doOp_run (he : (doOp E s p).run = some s') : ∃ x H', (evalOp E s.a (deaden s.H (hidden s.a p.hide)) p.op).run = some (x, H') ∧ s' = ⟨putA s.a p.dst x, revive s.H H' (hidden s.a p.hide)⟩ := by
  unfold doOp at he
  obtain ⟨⟨x, H1⟩, h1, h2⟩ := DT.run_bind_some he
  have h2' : some (⟨putA s.a p.dst x, H1⟩ : St) = some s' := h2
  injection h2' with h2'
  subst h2'
  cases hh : p.hide with
  | nil =>
    rw [hh] at h1
    exact ⟨x, H1, h1, rfl⟩
  | cons d l =>
    rw [hh] at h1
    have h1' : ((evalOp E s.a (deaden s.H (hidden s.a (d :: l))) p.op).bind fun r => .ret (r.1, revive s.H r.2 (hidden s.a (d :: l)))).run = some (x, H1) := h1
    obtain ⟨⟨y, H'⟩, h3, h4⟩ := DT.run_bind_some h1'
    have h4' : some (y, revive s.H H' (hidden s.a (d :: l))) = some (x, H1) := h4
    injection h4' with h4'; injection h4' with e1 e2; subst e1 e2
    exact ⟨y, H', h3, rfl⟩
end

/-! ### the operations of a region -/
def opAt (ops : Array Oper) (j : Nat) : Oper := ops.getD j default
theorem opAt_eq {ops : Array Oper} {j : Nat} (h : j < ops.size) : ops[j]? = some (opAt ops j) := by simp [opAt, Array.getD, h]
def gdAt (ops : Array Oper) (j : Nat) : Option (Nat × Bool) := (cGuard ops (opAt ops j)).getD none
def kdAt (tr : Nat) (P : Program) (ops : Array Oper) (j : Nat) : Nat := kindO tr P (opAt ops j)
def poAt (tr : Nat) (P : Program) (ops : Array Oper) (j : Nat) : PO := toTree tr (cOp P (opAt ops j))
def dsAt (ops : Array Oper) (j : Nat) : Option Nat := (opAt ops j).dst
def piAt (tr : Nat) (P : Program) (ops : Array Oper) (M : List Nat) (j : Nat) : PI := ⟨dsAt ops j, gdAt ops j, if Nat.beq (kdAt tr P ops j) 2 then hideOf ops M j else [], poAt tr P ops j⟩

theorem cPIs_at {tr : Nat} {P : Program} {ops : Array Oper} {M : List Nat} : ∀ {r : List Oper} {k : Nat} {ks : List (Nat × PI)}, cPIs tr P ops M k r = some ks → ∀ (i : Nat) o, r[i]? = some o →
    ∃ g, cGuard ops o = some g ∧ ks[i]? = some (kindO tr P o, ⟨o.dst, g, if Nat.beq (kindO tr P o) 2 then hideOf ops M (k + i) else [], toTree tr (cOp P o)⟩)
  | [], k, ks, h, i, o, ho => by simp at ho
  | o' :: r, k, ks, h, i, o, ho => by
    simp only [cPIs] at h
    cases h1 : cPI tr P ops M k o' with
    | none => simp [h1] at h
    | some x =>
    cases h2 : cPIs tr P ops M (k + 1) r with
    | none => simp [h1, h2] at h
    | some l =>
    simp only [h1, h2] at h
    injection h with h
    subst h
    cases i with
    | zero =>
      simp at ho
      subst ho
      unfold cPI at h1
      cases hg : cGuard ops o' with
      | none => simp [hg] at h1
      | some g =>
        simp only [hg] at h1
        injection h1 with h1
        exact ⟨g, rfl, by simp [← h1]⟩
    | succ i =>
      obtain ⟨g, h3, h4⟩ := cPIs_at h2 i o (by simpa using ho)
      exact ⟨g, h3, by rw [show k + (i + 1) = k + 1 + i by omega]; simpa using h4⟩

/-- what was checked of a region -/
structure DC (tr : Nat) (P : Program) (ops : Array Oper) (M : List Nat) (ks : List (Nat × PI)) : Prop where
  rows : rowsOk ops M = true
  guard : ∀ j, j < ops.size → cGuard ops (opAt ops j) = some (gdAt ops j)
  at' : ∀ j, j < ops.size → ks[j]? = some (kdAt tr P ops j, piAt tr P ops M j)
  one : ∀ j, j < ops.size → drawOne ops M ks j = true

section
variable {tr : Nat} {P : Program} {ops : Array Oper} {M : List Nat} {ks : List (Nat × PI)}
theorem cDrawT_ok {dsts : List Nat} {as l : List PI} {ps : List (PO × PO)} (h : cDrawT tr P ops = .draw dsts as l ps) :
    ∃ M ks, DC tr P ops M ks ∧ dsts = ops.toList.filterMap (·.dst) ∧ as = (List.range ops.size).filterMap (pick0 ks) ∧ l = (List.range ops.size).filterMap (pickN ks) ∧ ps = pairsOf ops.size M ks := by
  unfold cDrawT at h
  simp only at h
  cases hk : cPIs tr P ops (Region.before ops).toList 0 ops.toList with
  | none => simp [hk] at h
  | some ks =>
  simp only [hk, cDrawK] at h
  split at h
  case h_2 => cases h
  rename_i hc
  injection h with e1 e2 e3 e4
  rw [Bool.and_eq_true] at hc
  refine ⟨_, ks, ⟨hc.1, fun j hj => ?_, fun j hj => ?_, fun j hj => List.all_eq_true.1 hc.2 j (List.mem_range.2 hj)⟩, e1.symm, e2.symm, e3.symm, e4.symm⟩
  all_goals
    obtain ⟨g, h1, h2⟩ := cPIs_at hk j (opAt ops j) (by simpa using opAt_eq hj)
    have hg : gdAt ops j = g := by simp [gdAt, h1]
  · rw [hg]; exact h1
  · rw [h2]
    simp only [piAt, hg, Nat.zero_add, kdAt, poAt, dsAt]
    rfl

theorem cDraw_ok {dsts : List Nat} {as l : List PI} {ps : List (PO × PO)} (h : cDraw P ops = .draw dsts as l ps) :
    ∃ tr M ks, DC tr P ops M ks ∧ dsts = ops.toList.filterMap (·.dst) ∧ as = (List.range ops.size).filterMap (pick0 ks) ∧ l = (List.range ops.size).filterMap (pickN ks) ∧ ps = pairsOf ops.size M ks := by
  unfold cDraw at h
  split at h
  · rename_i a b c d h1
    injection h with e1 e2 e3 e4
    subst e1 e2 e3 e4
    exact ⟨0, cDrawT_ok h1⟩
  · split at h
    · rename_i a b c d h1
      injection h with e1 e2 e3 e4
      subst e1 e2 e3 e4
      exact ⟨1, cDrawT_ok h1⟩
    · exact ⟨2, cDrawT_ok h⟩

theorem kd_cases (j : Nat) : kdAt tr P ops j = 0 ∨ kdAt tr P ops j = 1 ∨ kdAt tr P ops j = 2 := by
  unfold kdAt kindO
  split
  · exact .inl rfl
  · split
    · exact .inr (.inl rfl)
    · exact .inr (.inr rfl)
theorem kd_float {j : Nat} (h : kdAt tr P ops j = 1) : isFloat (poAt tr P ops j) = true := by
  unfold kdAt kindO at h
  split at h
  · cases h
  · split at h
    · assumption
    · cases h
theorem float_or_heavy (o : PO) : isFloat o = true ∨ isHeavy o = true := by cases o <;> first | exact .inl rfl | exact .inr rfl
theorem kd_heavy {j : Nat} (h : kdAt tr P ops j = 2) : isHeavy (poAt tr P ops j) = true := by
  unfold kdAt kindO at h
  split at h
  · cases h
  · split at h
    · cases h
    · rename_i h2
      exact (float_or_heavy _).resolve_left h2
theorem kd_alloc {j : Nat} (h : kdAt tr P ops j = 0) : isAlloc (opAt ops j) = true := by
  unfold kdAt kindO at h
  split at h
  · assumption
  · split at h <;> cases h

variable (hD : DC tr P ops M ks)
include hD
theorem DC.slots {i j d : Nat} (hi : i < ops.size) (hj : j < ops.size) (hd : dsAt ops i = some d) :
    (d ∈ gSlots (gdAt ops j) ++ poSlots (poAt tr P ops j) → isBefore M i j = true ∨ (isLoose (poAt tr P ops j) = true ∧ isAlloc (opAt ops i) = false ∧ (isBefore M j i = true ∨ i = j))) ∧ (i = j ∨ dsAt ops j ≠ some d) := by
  have h := hD.one j hj
  unfold drawOne at h
  rw [hD.at' j hj] at h
  simp only [Bool.and_eq_true] at h
  have h1 := List.all_eq_true.1 h.1.1.1 i (List.mem_range.2 hi)
  have hd' : (opAt ops i).dst = some d := hd
  simp only [opAt_eq hi, hd', Bool.and_eq_true, Bool.or_eq_true, Bool.not_eq_true'] at h1
  refine ⟨fun hm => ?_, ?_⟩
  · rcases h1.1 with (h2 | h2) | h2
    · have : (gSlots (gdAt ops j) ++ poSlots (poAt tr P ops j)).contains d = false := h2
      rw [List.contains_iff_mem.2 hm] at this
      cases this
    · exact .inl h2
    · exact .inr ⟨h2.1.1, h2.1.2, h2.2.imp id Nat.eq_of_beq_eq_true⟩
  · rcases h1.2 with h2 | h2
    · exact .inl (Nat.eq_of_beq_eq_true h2)
    · refine .inr fun e => ?_
      have h3 : (dsAt ops j != some d) = true := h2
      rw [e] at h3
      simp at h3
theorem DC.bare {j : Nat} (hj : j < ops.size) : usesBare (poAt tr P ops j) = true := by
  have h := hD.one j hj
  unfold drawOne at h
  rw [hD.at' j hj] at h
  simp only [Bool.and_eq_true] at h
  exact h.1.1.2
theorem DC.allocDst {j : Nat} (hj : j < ops.size) (h0 : kdAt tr P ops j = 0) : ∃ d, dsAt ops j = some d := by
  have h := hD.one j hj
  unfold drawOne at h
  rw [hD.at' j hj] at h
  simp only [Bool.and_eq_true, Bool.or_eq_true, Bool.not_eq_true'] at h
  rcases h.1.2 with h2 | h2
  · rw [h0] at h2; cases h2
  · exact Option.isSome_iff_exists.1 h2
theorem DC.chain {i j : Nat} (hi : i < j) (hj : j < ops.size) (hki : kdAt tr P ops i = 2) (hkj : kdAt tr P ops j = 2) : isBefore M i j = true ∧ ∀ a, isBefore M a i = true → isBefore M a j = true := by
  have h := hD.one j hj
  unfold drawOne at h
  rw [hD.at' j hj] at h
  simp only [Bool.and_eq_true, Bool.or_eq_true, Bool.not_eq_true'] at h
  rcases h.2 with h2 | h2
  · rw [hkj] at h2; cases h2
  · have h3 := List.all_eq_true.1 h2 i (List.mem_range.2 hi)
    rw [hD.at' i (by omega), hki] at h3
    simp only [Bool.and_eq_true] at h3
    refine ⟨h3.1, fun a ha => ?_⟩
    have h4 := Nat.eq_of_beq_eq_true h3.2
    unfold isBefore at ha ⊢
    rw [← h4, Nat.testBit_and, Bool.and_eq_true] at ha
    exact ha.2
theorem DC.pair {i j : Nat} (hi : i < ops.size) (hj : j < ops.size) (hkj : kdAt tr P ops j = 1) (hki : kdAt tr P ops i = 2) (h1 : isBefore M i j = false) (h2 : isBefore M j i = false) :
    (poAt tr P ops j, poAt tr P ops i) ∈ pairsOf ops.size M ks := by
  unfold pairsOf
  rw [List.mem_flatMap]
  refine ⟨j, List.mem_range.2 hj, ?_⟩
  rw [hD.at' j hj, hkj]
  simp only
  rw [List.mem_filterMap]
  refine ⟨i, List.mem_range.2 hi, ?_⟩
  rw [hD.at' i hi, hki]
  simp [h1, h2, piAt]
end
end Go.Ev
namespace Go.Ev
open Go

/-- the run of a region's operations: first the new zeros, then the rest -/
structure Traj (E : Env) (ops : Array Oper) (ks : List (Nat × PI)) (s : St) (U T : Nat → St) : Prop where
  u0 : U 0 = s
  u : ∀ j, j < ops.size → StepAt E (pick0 ks) U j
  t0 : T 0 = U ops.size
  t : ∀ j, j < ops.size → StepAt E (pickN ks) T j

def zeroBlk (z : List AVal) : ABlk := { et := 0, es := z.length, elems := [z], own := true, dead := false, g := 0 }
theorem putA_len (a : List AVal) (dst : Option Nat) (x : AVal) : (putA a dst x).length = a.length := by
  rw [putA_eq]
  cases dst <;> simp
theorem putA_off {a : List AVal} {dst : Option Nat} {x : AVal} {t : Nat} (h : dst ≠ some t) : (putA a dst x)[t]? = a[t]? := by
  rw [putA_eq]
  cases dst with
  | none => rfl
  | some d => simp only; rw [List.getElem?_set_ne (fun e => h (by rw [e]))]
theorem putA_on {a : List AVal} {d : Nat} {x : AVal} (h : d < a.length) : (putA a (some d) x)[d]? = some x := by
  rw [putA_eq]
  exact List.getElem?_set_self h

section
variable {tr : Nat} {E : Env} {ops : Array Oper} {M : List Nat} {ks : List (Nat × PI)} {s : St} {U T : Nat → St}
variable (hD : DC tr E.P ops M ks) (hT : Traj E ops ks s U T)
include hD

theorem before_lt {i j : Nat} (hj : j < ops.size) (hi : i < ops.size) (hb : isBefore M i j = true) : i < j := by
  refine rows_before hD.rows (· < j) (fun m o ho hm i hi => ?_) j _ (opAt_eq hj) (fun i hi => rows_lt hD.rows (opAt_eq hj) hi) i hi hb
  have := rows_lt hD.rows ho hi
  omega
theorem pick_0 {j : Nat} (hj : j < ops.size) (h : kdAt tr E.P ops j = 0) : pick0 ks j = some (piAt tr E.P ops M j) ∧ pickN ks j = none := by
  unfold pick0 pickN
  rw [hD.at' j hj, h]
  exact ⟨rfl, rfl⟩
theorem pick_n {j : Nat} (hj : j < ops.size) (h : kdAt tr E.P ops j ≠ 0) : pick0 ks j = none ∧ pickN ks j = some (piAt tr E.P ops M j) := by
  unfold pick0 pickN
  rw [hD.at' j hj]
  rcases kd_cases (tr := tr) (P := E.P) (ops := ops) j with h' | h' | h'
  · exact absurd h' h
  · rw [h']; exact ⟨rfl, rfl⟩
  · rw [h']; exact ⟨rfl, rfl⟩

include hT
theorem u_rest {j : Nat} (hj : j < ops.size) (h : kdAt tr E.P ops j ≠ 0) : U (j + 1) = U j := by
  have := hT.u j hj
  unfold StepAt at this
  rw [(pick_n hD hj h).1] at this
  exact this
theorem t_alloc {j : Nat} (hj : j < ops.size) (h : kdAt tr E.P ops j = 0) : T (j + 1) = T j := by
  have := hT.t j hj
  unfold StepAt at this
  rw [(pick_0 hD hj h).2] at this
  exact this
theorem u_alloc {j : Nat} (hj : j < ops.size) (h : kdAt tr E.P ops j = 0) : ∃ t z d, (opAt ops j).op = .alloc t ∧ (opAt ops j).guard = none ∧ zeT E.P t = some z ∧ dsAt ops j = some d ∧
    U (j + 1) = ⟨putA (U j).a (some d) (.ptr (U j).H.length 0 0 0), (U j).H ++ [zeroBlk z]⟩ := by
  have hst := hT.u j hj
  unfold StepAt at hst
  rw [(pick_0 hD hj h).1] at hst
  obtain ⟨d, hd⟩ := hD.allocDst hj h
  have ha := kd_alloc h
  unfold isAlloc at ha
  cases hop : (opAt ops j).op with
  | alloc t =>
    simp only [hop] at ha
    have hg : (opAt ops j).guard = none := by simpa using ha
    have hgd : gdAt ops j = none := by simp [gdAt, cGuard, hg]
    cases hz : zeT E.P t with
    | none =>
      exfalso
      have hbad : poAt tr E.P ops j = .bad := by simp [poAt, toTree, cOp, hop, hz]
      obtain ⟨b, h1, h2, h3⟩ := evalPI_cases hst
      have hb : b = true := by
        have : gOut E (U j).a (gdAt ops j) = some b := h1
        rw [hgd] at this
        injection this with this
        exact this.symm
      obtain ⟨x, H', h4, _⟩ := doOp_run (h2 hb)
      have h4' : (evalOp E (U j).a (deaden (U j).H (hidden (U j).a (piAt tr E.P ops M j).hide)) (poAt tr E.P ops j)).run = some (x, H') := h4
      rw [hbad] at h4'
      cases h4'
    | some z =>
      refine ⟨t, z, d, rfl, hg, hz, hd, ?_⟩
      have hpo : poAt tr E.P ops j = .alloc z := by simp [poAt, toTree, cOp, hop, hz]
      have hhide : (piAt tr E.P ops M j).hide = [] := by simp [piAt, h]
      obtain ⟨b, h1, h2, h3⟩ := evalPI_cases hst
      have hb : b = true := by
        have : gOut E (U j).a (gdAt ops j) = some b := h1
        rw [hgd] at this
        injection this with this
        exact this.symm
      obtain ⟨x, H', h4, h5⟩ := doOp_run (h2 hb)
      rw [hhide] at h4 h5
      have h4' : (evalOp E (U j).a (U j).H (poAt tr E.P ops j)).run = some (x, H') := h4
      rw [hpo] at h4'
      simp only [evalOp, DT.run_ret, len_eq, newBlk, app_eq] at h4'
      injection h4' with h4'
      injection h4' with e1 e2
      subst e1 e2
      rw [h5]
      show (⟨putA (U j).a (dsAt ops j) _, _⟩ : St) = _
      rw [hd]
      rfl
  | _ => simp [hop] at ha

theorem t_step {j : Nat} (hj : j < ops.size) (h : kdAt tr E.P ops j ≠ 0) : ∃ b, gOut E (T j).a (gdAt ops j) = some b ∧
    (b = true → ∃ x H', (evalOp E (T j).a (deaden (T j).H (hidden (T j).a (piAt tr E.P ops M j).hide)) (poAt tr E.P ops j)).run = some (x, H') ∧
      T (j + 1) = ⟨putA (T j).a (dsAt ops j) x, revive (T j).H H' (hidden (T j).a (piAt tr E.P ops M j).hide)⟩) ∧
    (b = false → T (j + 1) = ⟨putA (T j).a (dsAt ops j) (.v (.tuple #[])), (T j).H⟩) := by
  have hst := hT.t j hj
  unfold StepAt at hst
  rw [(pick_n hD hj h).2] at hst
  obtain ⟨b, h1, h2, h3⟩ := evalPI_cases hst
  exact ⟨b, h1, fun hb => doOp_run (h2 hb), h3⟩

theorem u_slot {t : Nat} : ∀ (d u : Nat), u + d ≤ ops.size → (∀ j, u ≤ j → j < u + d → kdAt tr E.P ops j = 0 → dsAt ops j ≠ some t) → (U (u + d)).a[t]? = (U u).a[t]?
  | 0, u, _, _ => rfl
  | d + 1, u, hb, hn => by
    have ih := u_slot d u (by omega) fun j h1 h2 => hn j h1 (by omega)
    rw [← ih]
    show (U (u + d + 1)).a[t]? = _
    by_cases hk : kdAt tr E.P ops (u + d) = 0
    · obtain ⟨_, z, d', _, _, _, hd', hU⟩ := u_alloc hD hT (j := u + d) (by omega) hk
      rw [hU]
      exact putA_off (hd' ▸ hn (u + d) (by omega) (by omega) hk)
    · rw [u_rest hD hT (by omega) hk]
theorem t_slot {t : Nat} : ∀ (d u : Nat), u + d ≤ ops.size → (∀ j, u ≤ j → j < u + d → kdAt tr E.P ops j ≠ 0 → dsAt ops j ≠ some t) → (T (u + d)).a[t]? = (T u).a[t]?
  | 0, u, _, _ => rfl
  | d + 1, u, hb, hn => by
    have ih := t_slot d u (by omega) fun j h1 h2 => hn j h1 (by omega)
    rw [← ih]
    show (T (u + d + 1)).a[t]? = _
    by_cases hk : kdAt tr E.P ops (u + d) = 0
    · rw [t_alloc hD hT (by omega) hk]
    · obtain ⟨b, h1, h2, h3⟩ := t_step hD hT (j := u + d) (by omega) hk
      have hne := hn (u + d) (by omega) (by omega) hk
      cases b with
      | true =>
        obtain ⟨x, H', _, h5⟩ := h2 rfl
        rw [h5]; exact putA_off hne
      | false => rw [h3 rfl]; exact putA_off hne
theorem a_len : ∀ j, j ≤ ops.size → (U j).a.length = s.a.length ∧ (T j).a.length = s.a.length := by
  have hu : ∀ j, j ≤ ops.size → (U j).a.length = s.a.length := by
    intro j
    induction j with
    | zero => intro _; rw [hT.u0]
    | succ j ih =>
      intro hj
      by_cases hk : kdAt tr E.P ops j = 0
      · obtain ⟨_, z, d', _, _, _, hd', hU⟩ := u_alloc hD hT (j := j) (by omega) hk
        rw [hU]
        simp only [putA_len]
        exact ih (by omega)
      · rw [u_rest hD hT (by omega) hk]; exact ih (by omega)
  intro j
  induction j with
  | zero => intro _; exact ⟨hu 0 (by omega), by rw [hT.t0]; exact hu _ (Nat.le_refl _)⟩
  | succ j ih =>
    intro hj
    refine ⟨hu _ hj, ?_⟩
    by_cases hk : kdAt tr E.P ops j = 0
    · rw [t_alloc hD hT (by omega) hk]; exact (ih (by omega)).2
    · obtain ⟨b, h1, h2, h3⟩ := t_step hD hT (j := j) (by omega) hk
      cases b with
      | true =>
        obtain ⟨x, H', _, h5⟩ := h2 rfl
        rw [h5]; simp only [putA_len]; exact (ih (by omega)).2
      | false => rw [h3 rfl]; simp only [putA_len]; exact (ih (by omega)).2

/-- what a strict operation reads, it reads at the end too -/
theorem a_read {j : Nat} (hj : j < ops.size) (hl : isLoose (poAt tr E.P ops j) = false) : Agr (T j).a (T ops.size).a (gSlots (gdAt ops j) ++ poSlots (poAt tr E.P ops j)) := fun t ht => by
  have := t_slot hD hT (t := t) (ops.size - j) j (by omega) fun i h1 h2 hk he => by
    have hi : i < ops.size := by omega
    rcases (hD.slots hi hj he).1 ht with hb | hb
    · have := before_lt hD hj hi hb
      omega
    · rw [hl] at hb; cases hb.1
  rw [show j + (ops.size - j) = ops.size by omega] at this
  exact this.symm
theorem a_dst {j d : Nat} (hj : j < ops.size) (hd : dsAt ops j = some d) : (T ops.size).a[d]? = (T (j + 1)).a[d]? := by
  have := t_slot hD hT (t := d) (ops.size - (j + 1)) (j + 1) (by omega) fun i h1 h2 hk he => by
    have hi : i < ops.size := by omega
    rcases (hD.slots hi hj he).2 with h | h
    · omega
    · exact h hd
  rw [show j + 1 + (ops.size - (j + 1)) = ops.size by omega] at this
  exact this
theorem a_alloc {j d v : Nat} (hj : j < ops.size) (h : kdAt tr E.P ops j = 0) (hd : dsAt ops j = some d) (hlt : d < s.a.length) (hv : v ≤ ops.size) : (T v).a[d]? = some (.ptr (U j).H.length 0 0 0) := by
  have hne : ∀ i, i < ops.size → i ≠ j → dsAt ops i ≠ some d := fun i hi hij he => by
    rcases (hD.slots hi hj he).2 with h | h
    · exact hij h
    · exact h hd
  have h1 := t_slot hD hT (t := d) v 0 (by omega) fun i _ h2 hk => hne i (by omega) fun e => hk (e ▸ h)
  rw [Nat.zero_add] at h1
  rw [h1, hT.t0]
  have h2 := u_slot hD hT (t := d) (ops.size - (j + 1)) (j + 1) (by omega) fun i h3 h4 _ => hne i (by omega) (by omega)
  rw [show j + 1 + (ops.size - (j + 1)) = ops.size by omega] at h2
  rw [h2]
  obtain ⟨_, z, d', _, _, _, hd', hU⟩ := u_alloc hD hT hj h
  have : d' = d := Option.some.inj (hd'.symm.trans hd)
  subst this
  rw [hU]
  exact putA_on (by rw [(a_len hD hT j (by omega)).1]; exact hlt)

/-! ### the heap of new zeros -/
theorem u_heap : ∀ (d u : Nat), u + d ≤ ops.size → ∃ l, (U (u + d)).H = (U u).H ++ l
  | 0, u, _ => ⟨[], by simp⟩
  | d + 1, u, hb => by
    obtain ⟨l, hl⟩ := u_heap d u (by omega)
    show ∃ l, (U (u + d + 1)).H = _
    by_cases hk : kdAt tr E.P ops (u + d) = 0
    · obtain ⟨_, z, d', _, _, _, hd', hU⟩ := u_alloc hD hT (j := u + d) (by omega) hk
      exact ⟨l ++ [zeroBlk z], by rw [hU, hl, List.append_assoc]⟩
    · exact ⟨l, by rw [u_rest hD hT (by omega) hk, hl]⟩
theorem u_lt {i j : Nat} (hij : i < j) (hj : j ≤ ops.size) (hk : kdAt tr E.P ops i = 0) : (U i).H.length < (U j).H.length := by
  obtain ⟨_, z, d', _, _, _, hd', hU⟩ := u_alloc hD hT (j := i) (by omega) hk
  obtain ⟨l, hl⟩ := u_heap hD hT (j - (i + 1)) (i + 1) (by omega)
  rw [show i + 1 + (j - (i + 1)) = j by omega] at hl
  rw [hl, hU]
  simp
theorem u_base {j : Nat} (hj : j ≤ ops.size) : s.H.length ≤ (U j).H.length ∧ ∀ i, i < s.H.length → (U j).H[i]? = s.H[i]? := by
  obtain ⟨l, hl⟩ := u_heap hD hT j 0 (by omega)
  rw [Nat.zero_add, hT.u0] at hl
  rw [hl]
  exact ⟨by simp, fun i hi => List.getElem?_append_left hi⟩
theorem u_zero {j : Nat} (hj : j < ops.size) (hk : kdAt tr E.P ops j = 0) : ∃ t z, (opAt ops j).op = .alloc t ∧ zeT E.P t = some z ∧ (T 0).H[(U j).H.length]? = some (zeroBlk z) := by
  obtain ⟨t, z, d', h1, _, h2, hd', hU⟩ := u_alloc hD hT hj hk
  refine ⟨t, z, h1, h2, ?_⟩
  obtain ⟨l, hl⟩ := u_heap hD hT (ops.size - (j + 1)) (j + 1) (by omega)
  rw [show j + 1 + (ops.size - (j + 1)) = ops.size by omega, hU] at hl
  rw [hT.t0, hl]
  simp
theorem u_all : ∀ (v : Nat), v ≤ ops.size → ∀ id, s.H.length ≤ id → id < (U v).H.length → ∃ j, j < v ∧ kdAt tr E.P ops j = 0 ∧ id = (U j).H.length
  | 0, _, id, h1, h2 => by rw [hT.u0] at h2; omega
  | v + 1, hv, id, h1, h2 => by
    by_cases hk : kdAt tr E.P ops v = 0
    · obtain ⟨_, z, d', _, _, _, hd', hU⟩ := u_alloc hD hT (j := v) (by omega) hk
      rw [hU] at h2
      simp at h2
      by_cases he : id < (U v).H.length
      · obtain ⟨j, h3, h4, h5⟩ := u_all v (by omega) id h1 he
        exact ⟨j, by omega, h4, h5⟩
      · exact ⟨v, by omega, hk, by omega⟩
    · rw [u_rest hD hT (by omega) hk] at h2
      obtain ⟨j, h3, h4, h5⟩ := u_all v (by omega) id h1 h2
      exact ⟨j, by omega, h4, h5⟩
end
end Go.Ev
namespace Go.Ev
open Go

section
variable {E : Env} {a a' : List AVal}
theorem usesOf_slots {o : PO} (h : Agr a a' (poSlots o)) : usesOf E a o = usesOf E a' o := by
  cases o with
  | load ks n agg x => simp only [usesOf, Agr.arg (E := E) (x := x) h]
  | idxS es x i => simp only [usesOf, Agr.arg (E := E) h.left]
  | slice es x lo hi => simp only [usesOf, Agr.arg (E := E) h.left.left]
  | _ => rfl
theorem touchOf_slots {o : PO} (h : Agr a a' (poSlots o)) : touchOf E a o = touchOf E a' o := by
  cases o with
  | store n x y => simp only [touchOf, Agr.arg (E := E) h.left]
  | append et es by' x y => simp only [touchOf, Agr.arg (E := E) h.left]
  | copy es x y => simp only [touchOf, Agr.arg (E := E) h.left]
  | call f xs => simp only [touchOf, Agr.args (E := E) h]
  | calld x xs => simp only [touchOf, Agr.args (E := E) h.right, Agr.arg (E := E) h.left]
  | _ => rfl
theorem usesOf_loose {o : PO} (h : isLoose o = true) : usesOf E a o = [] := by cases o <;> first | rfl | cases h
theorem touchOf_loose {o : PO} (h : isLoose o = true) : touchOf E a o = [] := by cases o <;> first | rfl | cases h
theorem pairsOk_at : ∀ {l : List (PO × PO)}, pairsOk E a l = true → ∀ {p : PO × PO}, p ∈ l → ∀ id ∈ usesOf E a p.1, id ∉ touchOf E a p.2
  | [], _, p, hp => by cases hp
  | q :: l, h, p, hp => by
    have e : pairsOk E a (q :: l) = Bool.rec false (pairsOk E a l) (apartN (usesOf E a q.1) (touchOf E a q.2)) := rfl
    rw [e] at h
    cases hq : apartN (usesOf E a q.1) (touchOf E a q.2) with
    | false => rw [hq] at h; cases h
    | true =>
      rw [hq] at h
      rcases List.mem_cons.1 hp with rfl | hp
      · exact apartN_ok hq
      · exact pairsOk_at h hp
theorem slotsIn_at : ∀ {l : List PI}, slotsIn a l = true → ∀ p ∈ l, ∀ d, p.dst = some d → d < a.length
  | [], _, p, hp => by cases hp
  | q :: l, h, p, hp => fun d hd => by
    have e : slotsIn a (q :: l) = (match q.dst with
      | some d => match nth a d with
        | some _ => slotsIn a l
        | none => false
      | none => false) := rfl
    rw [e] at h
    cases hq : q.dst with
    | none => simp [hq] at h
    | some d' =>
    simp only [hq, nth_eq] at h
    cases hn : a[d']? with
    | none => simp [hn] at h
    | some x =>
    simp only [hn] at h
    rcases List.mem_cons.1 hp with rfl | hp
    · have : d' = d := Option.some.inj (hq.symm.trans hd)
      subst this
      exact (List.getElem?_eq_some_iff.1 hn).1
    · exact slotsIn_at h p hp d hd
theorem kd_isAlloc {tr : Nat} {P : Program} {ops : Array Oper} {j : Nat} : kdAt tr P ops j = 0 ↔ isAlloc (opAt ops j) = true := by
  refine ⟨kd_alloc, fun h => ?_⟩
  unfold kdAt kindO
  rw [if_pos h]
end

section
variable {tr : Nat} {E : Env} {ops : Array Oper} {M : List Nat} {ks : List (Nat × PI)} {s : St} {U T : Nat → St}
variable (hD : DC tr E.P ops M ks) (hT : Traj E ops ks s U T) (hin : ∀ j, j < ops.size → kdAt tr E.P ops j = 0 → ∀ d, dsAt ops j = some d → d < s.a.length)
include hD hT

theorem uses_end {j : Nat} (hj : j < ops.size) : usesOf E (T j).a (poAt tr E.P ops j) = usesOf E (T ops.size).a (poAt tr E.P ops j) := by
  cases hl : isLoose (poAt tr E.P ops j) with
  | true => rw [usesOf_loose hl, usesOf_loose hl]
  | false => exact usesOf_slots (a_read hD hT hj hl).right
theorem touch_end {j : Nat} (hj : j < ops.size) : touchOf E (T j).a (poAt tr E.P ops j) = touchOf E (T ops.size).a (poAt tr E.P ops j) := by
  cases hl : isLoose (poAt tr E.P ops j) with
  | true => rw [touchOf_loose hl, touchOf_loose hl]
  | false => exact touchOf_slots (a_read hD hT hj hl).right

theorem t_float {j : Nat} (hj : j < ops.size) (h : kdAt tr E.P ops j = 1) : ∃ b x, gOut E (T j).a (gdAt ops j) = some b ∧ T (j + 1) = ⟨putA (T j).a (dsAt ops j) x, (T j).H⟩ ∧
    (b = true → (evalOp E (T j).a (T j).H (poAt tr E.P ops j)).run = some (x, (T j).H)) ∧ (b = false → x = .v (.tuple #[])) := by
  obtain ⟨b, h1, h2, h3⟩ := t_step hD hT hj (by omega)
  have hh : (piAt tr E.P ops M j).hide = [] := by simp [piAt, h]
  cases b with
  | true =>
    obtain ⟨x, H', h4, h5⟩ := h2 rfl
    rw [hh] at h4 h5
    have h4' : (evalOp E (T j).a (T j).H (poAt tr E.P ops j)).run = some (x, H') := h4
    have he := (evalOp_float (kd_float h) h4').1
    subst he
    exact ⟨true, x, h1, h5, fun _ => h4', fun h => by cases h⟩
  | false => exact ⟨false, _, h1, h3 rfl, fun h => (by cases h), fun _ => rfl⟩

theorem t_same : ∀ (d u : Nat), u + d ≤ ops.size → (∀ j, u ≤ j → j < u + d → kdAt tr E.P ops j ≠ 2) → (T (u + d)).H = (T u).H
  | 0, u, _, _ => rfl
  | d + 1, u, hb, hn => by
    have ih := t_same d u (by omega) fun j h1 h2 => hn j h1 (by omega)
    rw [← ih]
    show (T (u + d + 1)).H = _
    rcases kd_cases (tr := tr) (P := E.P) (ops := ops) (u + d) with hk | hk | hk
    · rw [t_alloc hD hT (by omega) hk]
    · obtain ⟨b, x, _, h2, _⟩ := t_float hD hT (j := u + d) (by omega) hk
      rw [h2]
    · exact absurd hk (hn (u + d) (by omega) (by omega))

include hin
theorem hid_mem {j : Nat} (hj : j < ops.size) (h : kdAt tr E.P ops j = 2) (id : Nat) : id ∈ hidden (T j).a (piAt tr E.P ops M j).hide ↔ ∃ b, b < ops.size ∧ kdAt tr E.P ops b = 0 ∧ isBefore M b j = false ∧ id = (U b).H.length := by
  have hh : (piAt tr E.P ops M j).hide = hideOf ops M j := by simp [piAt, h]
  rw [hh]
  unfold hidden
  rw [mapL_eq, List.mem_map]
  constructor
  · rintro ⟨d, hd, he⟩
    unfold hideOf at hd
    rw [List.mem_filterMap] at hd
    obtain ⟨b, hb, hb2⟩ := hd
    have hb1 := List.mem_range.1 hb
    simp only [opAt_eq hb1] at hb2
    split at hb2
    · rename_i hc
      rw [Bool.and_eq_true, Bool.not_eq_true'] at hc
      have hk : kdAt tr E.P ops b = 0 := kd_isAlloc.2 hc.1
      have ha := a_alloc hD hT hb1 hk hb2 (hin b hb1 hk d hb2) (v := j) (by omega)
      rw [nth_eq, ha] at he
      exact ⟨b, hb1, hk, hc.2, he.symm⟩
    · cases hb2
  · rintro ⟨b, hb1, hk, hc, rfl⟩
    obtain ⟨d, hd⟩ := hD.allocDst hb1 hk
    refine ⟨d, ?_, ?_⟩
    · unfold hideOf
      rw [List.mem_filterMap]
      refine ⟨b, List.mem_range.2 hb1, ?_⟩
      have h2 : (isAlloc (opAt ops b) && !isBefore M b j) = true := by rw [kd_isAlloc.1 hk, hc]; rfl
      simp only [opAt_eq hb1, h2, if_true]
      exact hd
    · rw [nth_eq, a_alloc hD hT hb1 hk hd (hin b hb1 hk d hd) (v := j) (by omega)]

/-- an operation that changes memory -/
theorem t_heavy {j : Nat} (hj : j < ops.size) (h : kdAt tr E.P ops j = 2) : ∃ b x, gOut E (T j).a (gdAt ops j) = some b ∧ (T (j + 1)).a = putA (T j).a (dsAt ops j) x ∧
    (b = true → ∃ hid H', (∀ id, id ∈ hid ↔ ∃ b, b < ops.size ∧ kdAt tr E.P ops b = 0 ∧ isBefore M b j = false ∧ id = (U b).H.length) ∧
      (evalOp E (T j).a (killP (T j).H (· ∈ hid)) (poAt tr E.P ops j)).run = some (x, H') ∧ (T (j + 1)).H = revive (T j).H H' hid) ∧
    (b = false → x = .v (.tuple #[]) ∧ (T (j + 1)).H = (T j).H) := by
  obtain ⟨b, h1, h2, h3⟩ := t_step hD hT hj (by omega)
  cases b with
  | true =>
    obtain ⟨x, H', h4, h5⟩ := h2 rfl
    rw [deaden_eq] at h4
    exact ⟨true, x, h1, by rw [h5], fun _ => ⟨_, H', hid_mem hD hT hin hj h, h4, by rw [h5]⟩, fun h => by cases h⟩
  | false => exact ⟨false, _, h1, by rw [h3 rfl], fun h => (by cases h), fun _ => ⟨rfl, by rw [h3 rfl]⟩⟩

omit hD hT hin in
theorem mono_self {H : List ABlk} {l : List Nat} (hb : ∀ id ∈ l, id < H.length) : Mono (· ∈ l) (killP H (· ∈ l)) (killP H (· ∈ l)) (killP H (· ∈ l)) (killP H (· ∈ l)) :=
  ⟨rfl, fun _ _ => rfl, fun id b hD hb => by
    rw [killP_on hD] at hb
    simp only [Option.map_eq_some_iff] at hb
    obtain ⟨c, _, rfl⟩ := hb
    rfl, fun _ _ => rfl, fun _ _ => rfl, fun id h => by rw [killP_len]; exact hb id h⟩

theorem t_zero {b : Nat} (hb : b < ops.size) (hk : kdAt tr E.P ops b = 0) : ∀ (v : Nat), v ≤ ops.size → (∀ h, h < v → kdAt tr E.P ops h = 2 → isBefore M b h = false) → (T v).H[(U b).H.length]? = (T 0).H[(U b).H.length]?
  | 0, _, _ => rfl
  | v + 1, hv, hn => by
    have ih := t_zero hb hk v (by omega) fun h h1 => hn h (by omega)
    rw [← ih]
    rcases kd_cases (tr := tr) (P := E.P) (ops := ops) v with h0 | h0 | h0
    · rw [t_alloc hD hT (by omega) h0]
    · obtain ⟨b, x, _, h2, _⟩ := t_float hD hT (j := v) (by omega) h0
      rw [h2]
    · obtain ⟨bb, x, h1, _, h3, h4⟩ := t_heavy hD hT hin (j := v) (by omega) h0
      cases bb with
      | false => rw [(h4 rfl).2]
      | true =>
        obtain ⟨hid, H', h5, h6, h7⟩ := h3 rfl
        rw [h7]
        -- every hidden block stands in the heap
        have hall : ∀ id ∈ hid, id < (T v).H.length := fun id hid' => by
          obtain ⟨b', k1, k2, k3, rfl⟩ := (h5 id).1 hid'
          have := t_zero k1 k2 v (by omega) fun h h1 h2 => by
            cases hc : isBefore M b' h with
            | false => rfl
            | true =>
              rw [(hD.chain h1 (by omega) h2 h0).2 b' hc] at k3
              cases k3
          obtain ⟨t, z, _, _, hz⟩ := u_zero hD hT k1 k2
          rw [hz] at this
          exact (List.getElem?_eq_some_iff.1 this).1
        have hm : (U b).H.length ∈ hid := (h5 _).2 ⟨b, hb, hk, hn v (by omega) h0, rfl⟩
        obtain ⟨H2', _, hM⟩ := (mono_self hall).evalOp (E := E) (a := (T v).a) (kd_heavy h0) h6
        refine revive_on hm (hall _ hm) ?_
        exact hM.bound _ hm
theorem t_hall {j : Nat} (hj : j < ops.size) (h0 : kdAt tr E.P ops j = 2) {b : Nat} (k1 : b < ops.size) (k2 : kdAt tr E.P ops b = 0) (k3 : isBefore M b j = false) : (U b).H.length < (T j).H.length := by
  have := t_zero hD hT hin k1 k2 j (by omega) fun h h1 h2 => by
    cases hc : isBefore M b h with
    | false => rfl
    | true =>
      rw [(hD.chain h1 hj h2 h0).2 b hc] at k3
      cases k3
  obtain ⟨t, z, _, _, hz⟩ := u_zero hD hT k1 k2
  rw [hz] at this
  exact (List.getElem?_eq_some_iff.1 this).1

theorem t_like1 {j : Nat} (hj : j < ops.size) {id : Nat} (hn : kdAt tr E.P ops j = 2 → id ∉ touchOf E (T ops.size).a (poAt tr E.P ops j)) : LikeAt (T j).H (T (j + 1)).H id := by
  rcases kd_cases (tr := tr) (P := E.P) (ops := ops) j with h0 | h0 | h0
  · rw [t_alloc hD hT hj h0]; exact .refl _ _
  · obtain ⟨b, x, _, h2, _⟩ := t_float hD hT hj h0
    rw [h2]; exact .refl _ _
  · obtain ⟨bb, x, h1, _, h3, h4⟩ := t_heavy hD hT hin hj h0
    cases bb with
    | false => rw [(h4 rfl).2]; exact .refl _ _
    | true =>
      obtain ⟨hid, H', h5, h6, h7⟩ := h3 rfl
      rw [h7]
      have hall : ∀ id ∈ hid, id < (T j).H.length := fun id hid' => by
        obtain ⟨b', k1, k2, k3, rfl⟩ := (h5 id).1 hid'
        exact t_hall hD hT hin hj h0 k1 k2 k3
      obtain ⟨H2', _, hM⟩ := (mono_self hall).evalOp (E := E) (a := (T j).a) (kd_heavy h0) h6
      intro b hb
      by_cases hm : id ∈ hid
      · refine ⟨b, ?_, .refl b⟩
        rw [revive_on hm (hall _ hm) (hM.bound _ hm)]
        exact hb
      · rw [revive_off hm]
        have hslots : touchOf E (T j).a (poAt tr E.P ops j) = touchOf E (T ops.size).a (poAt tr E.P ops j) := touch_end hD hT hj
        exact evalOp_touch (kd_heavy h0) h6 (by rw [hslots]; exact hn h0) b (by rw [killP_off (D := (· ∈ hid)) hm]; exact hb)
theorem t_like {id : Nat} : ∀ (d u : Nat), u + d ≤ ops.size → (∀ j, u ≤ j → j < u + d → kdAt tr E.P ops j = 2 → id ∉ touchOf E (T ops.size).a (poAt tr E.P ops j)) → LikeAt (T u).H (T (u + d)).H id
  | 0, u, _, _ => .refl _ _
  | d + 1, u, hb, hn =>
    (t_like d u (by omega) fun j h1 h2 => hn j h1 (by omega)).trans (t_like1 hD hT hin (j := u + d) (by omega) (hn (u + d) (by omega) (by omega)))
end
end Go.Ev
namespace Go.Ev
open Go

section
variable {W : Nat → Prop} {ρ ρ' : Rho} {H H' : List ABlk} {F F' : Fz} {w w' : World}
/-- from one heap to another, block by living block -/
def Carry (ρ : Rho) (H : List ABlk) (ρ' : Rho) (H' : List ABlk) : Prop := ∀ (id : Nat) b, H[id]? = some b → b.dead = false → ∃ b', H'[id]? = some b' ∧ b'.dead = false ∧ b.g ≤ b'.g ∧ (b'.g = b.g → ρ' id = ρ id ∧ b'.es = b.es ∧ b.elems.length ≤ b'.elems.length)
section
variable (hk : Carry ρ H ρ' H') (hm : ∀ b o, F b o → F' b o) (hc : ∀ b o, F b o → w'.cell? ⟨b, o, none⟩ = w.cell? ⟨b, o, none⟩)
include hk hm hc
theorem CRel.carry {x : AVal} {x' : Value} (h : CRel ρ H F w x x') : CRel ρ' H' F' w' x x' := by
  cases h with
  | mem h => exact .mem (h.adv hm hc)
  | v => exact .v _
  | ptr id i c g a b hb hd hg h =>
    obtain ⟨b', hb', hd', hg', e⟩ := hk id b hb hd
    refine .ptr id i c g a b' hb' hd' (Nat.le_trans hg hg') fun hge => ?_
    have hbg : b'.g = b.g := by omega
    obtain ⟨e1, e2, e3⟩ := e hbg
    rw [e1, e2]
    exact h (by omega)
  | sl id off n g a cap b hb hd hg hn hs hm h =>
    obtain ⟨b', hb', hd', hg', e⟩ := hk id b hb hd
    refine .sl id off n g a cap b' hb' hd' (Nat.le_trans hg hg') hn hs hm fun hge => ?_
    have hbg : b'.g = b.g := by omega
    obtain ⟨e1, e2, e3⟩ := e hbg
    obtain ⟨h1, h2, h3⟩ := h (by omega)
    rw [e1, e2]
    exact ⟨h1, h2, Nat.le_trans h3 e3⟩
  | tptr cs a vs hs hF hw hr => exact .tptr cs a vs hs (fun c hlt => hm _ _ (hF c hlt)) (fun c hlt => (hc _ _ (hF c hlt)).trans (hw c hlt)) (fun c hlt => (hr c hlt).adv hm hc)
  | unk x' => exact .unk x'
theorem VRel.carry {x : AVal} {x' : Value} (h : VRel ρ H F w x x') : VRel ρ' H' F' w' x x' := by
  cases h with
  | cell h => exact .cell (h.carry hk hm hc)
  | agg cs vs hl h => exact .agg cs vs hl fun i x x' hx hx' => (h i x x' hx hx').carry hk hm hc
  | fn f caps vs hl h => exact .fn f caps vs hl fun i x x' hx hx' => (h i x x' hx hx').carry hk hm hc
theorem WRel.carry {x : AVal} {x' : Value} (h : WRel ρ H F w x x') : WRel ρ' H' F' w' x x' := by
  cases h with
  | val h => exact .val (h.carry hk hm hc)
  | tup xs vs hl h => exact .tup xs vs hl fun i x x' hx hx' => (h i x x' hx hx').carry hk hm hc
theorem ARel.carry {a : List AVal} {vs : Array Value} (h : ARel ρ H F w a vs) : ARel ρ' H' F' w' a vs :=
  ⟨h.1, fun i x x' hx hx' => (h.2 i x x' hx hx').carry hk hm hc⟩
end
end

section
variable {W : Nat → Prop} {ρ0 : Rho} {H0 : List ABlk} {F0 : Fz} {w0 w : World}
variable {tr : Nat} {E : Env} {ops : Array Oper} {M : List Nat} {ks : List (Nat × PI)} {s : St} {U T : Nat → St}

/-- who has come up -/
def exOf (listed : Array Bool) (j : Nat) : Prop := listed.getD j true = true
/-- the new zeros that have not come up -/
def deadIds (tr : Nat) (P : Program) (ops : Array Oper) (U : Nat → St) (listed : Array Bool) (id : Nat) : Prop := ∃ b, b < ops.size ∧ kdAt tr P ops b = 0 ∧ ¬ exOf listed b ∧ id = (U b).H.length
/-- the slots whose writers have not come up -/
def openSlots (ops : Array Oper) (listed : Array Bool) (t : Nat) : Prop := ∃ i, i < ops.size ∧ dsAt ops i = some t ∧ ¬ exOf listed i

theorem ex_set {listed : Array Bool} {i j : Nat} (hi : i < listed.size) : exOf (listed.setIfInBounds i true) j ↔ exOf listed j ∨ j = i := by
  unfold exOf
  by_cases e : i = j
  · subst e; simp [Array.getD, hi]
  · have : j ≠ i := fun h => e h.symm
    simp only [Array.getD_eq_getD_getElem?, Array.getElem?_setIfInBounds_ne e, this, or_false]

structure RInv (W : Nat → Prop) (ρ0 : Rho) (H0 : List ABlk) (F0 : Fz) (w0 : World) (tr : Nat) (E : Env) (ops : Array Oper) (a0 : List AVal) (U T : Nat → St) (m : Nat) (listed : Array Bool) (ac : Act) (w : World) : Prop where
  size : listed.size = ops.size
  closed : ∀ j, j < ops.size → exOf listed j → ∀ i ∈ direct (opAt ops j), exOf listed i
  hm : m ≤ ops.size
  heavy : ∀ j, j < ops.size → kdAt tr E.P ops j = 2 → (exOf listed j ↔ j < m)
  inv : Inv W ρ0 H0 F0 w0 ⟨maskP (T ops.size).a a0 (openSlots ops listed), killP (T m).H (deadIds tr E.P ops U listed)⟩ ac w

theorem mem_ready' {listed : Array Bool} {i : Nat} (h : i ∈ Region.ready .any ops listed) : i < ops.size ∧ ¬ exOf listed i ∧ (listed.size = ops.size → ∀ e ∈ direct (opAt ops i), e < ops.size → exOf listed e) := by
  unfold Region.ready at h
  rw [List.mem_filter] at h
  obtain ⟨h1, h2⟩ := h
  have hi := List.mem_range.1 h1
  rw [opAt_eq hi] at h2
  simp only [Option.map_some, Option.getD_some, Bool.and_eq_true, Bool.not_eq_true'] at h2
  refine ⟨hi, fun h => ?_, fun hsz e he hlt => ?_⟩
  · unfold exOf at h; rw [h] at h2; cases h2.1
  · obtain ⟨ed, h3, h4, h5⟩ := mem_direct.1 he
    have h6 : (opAt ops i).after.all (fun e => !Region.binds .any e || listed.getD e.on false) = true := h2.2
    rw [Array.all_eq_true_iff_forall_mem] at h6
    have h7 := h6 ed h3
    rw [h4, h5] at h7
    simp only [Bool.not_true, Bool.false_or] at h7
    unfold exOf
    have : e < listed.size := by omega
    simp only [Array.getD, this, dite_true] at h7 ⊢
    exact h7

variable (hD : DC tr E.P ops M ks) (hT : Traj E ops ks s U T) (hin : ∀ j, j < ops.size → kdAt tr E.P ops j = 0 → ∀ d, dsAt ops j = some d → d < s.a.length)
include hD

theorem before_ex {m : Nat} {listed : Array Bool} {ac : Act} (hR : RInv W ρ0 H0 F0 w0 tr E ops s.a U T m listed ac w) {j : Nat} (hj : j < ops.size) (hd : ∀ i ∈ direct (opAt ops j), exOf listed i) {i : Nat} (hi : i < ops.size) (hb : isBefore M i j = true) : exOf listed i :=
  rows_before hD.rows (exOf listed) (fun j' o ho hx i hi => by
    have hj' := (Array.getElem?_eq_some_iff.1 ho).1
    have : o = opAt ops j' := Option.some.inj (ho.symm.trans (opAt_eq hj'))
    subst this
    exact hR.closed j' hj' hx i hi) j _ (opAt_eq hj) hd i hi hb

theorem mask_step {listed : Array Bool} (hsz : listed.size = ops.size) {i : Nat} (hi : i < ops.size) {x : AVal} (hx : ∀ d, dsAt ops i = some d → d < (T ops.size).a.length → (T ops.size).a[d]? = some x) :
    maskP (T ops.size).a s.a (openSlots ops (listed.setIfInBounds i true)) = putA (maskP (T ops.size).a s.a (openSlots ops listed)) (dsAt ops i) x := by
  refine List.ext_getElem? fun t => ?_
  have hopen : ∀ t, dsAt ops i ≠ some t → (openSlots ops (listed.setIfInBounds i true) t ↔ openSlots ops listed t) := fun t hne => by
    constructor
    · rintro ⟨j, h1, h2, h3⟩
      exact ⟨j, h1, h2, fun h => h3 ((ex_set (hsz ▸ hi)).2 (.inl h))⟩
    · rintro ⟨j, h1, h2, h3⟩
      refine ⟨j, h1, h2, fun h => ?_⟩
      rcases (ex_set (hsz ▸ hi)).1 h with h | h
      · exact h3 h
      · subst h; exact hne h2
  by_cases hd : dsAt ops i = some t
  · have hno : ¬ openSlots ops (listed.setIfInBounds i true) t := by
      rintro ⟨j, h1, h2, h3⟩
      rcases (hD.slots hi h1 hd).2 with h | h
      · exact h3 ((ex_set (hsz ▸ hi)).2 (.inr h.symm))
      · exact h h2
    rw [maskP_off hno, hd]
    rcases Nat.lt_or_ge t (T ops.size).a.length with hlt | hge
    · rw [putA_on (by rw [maskP_len]; exact hlt)]
      exact hx t hd hlt
    · rw [List.getElem?_eq_none hge, List.getElem?_eq_none (by rw [putA_len, maskP_len]; exact hge)]
  · rw [putA_off hd]
    by_cases ho : openSlots ops listed t
    · rcases Nat.lt_or_ge t (T ops.size).a.length with hlt | hge
      · rw [maskP_on ho hlt, maskP_on ((hopen t hd).2 ho) hlt]
      · rw [List.getElem?_eq_none (by rw [maskP_len]; exact hge), List.getElem?_eq_none (by rw [maskP_len]; exact hge)]
    · rw [maskP_off ho, maskP_off fun h => ho ((hopen t hd).1 h)]

include hT
/-- what an operation reads, when it comes up -/
theorem mask_read {m : Nat} {listed : Array Bool} {ac : Act} (hR : RInv W ρ0 H0 F0 w0 tr E ops s.a U T m listed ac w) {j : Nat} (hj : j < ops.size) (hnx : ¬ exOf listed j) (hd : ∀ i ∈ direct (opAt ops j), exOf listed i) :
    Agr (T j).a (maskP (T ops.size).a s.a (openSlots ops listed)) (gSlots (gdAt ops j) ++ poSlots (poAt tr E.P ops j)) := fun t ht => by
  have huniq : ∀ {i i' : Nat}, i < ops.size → i' < ops.size → dsAt ops i = some t → dsAt ops i' = some t → i = i' := fun {i i'} h1 h2 e1 e2 => ((hD.slots h1 h2 e1).2).resolve_right fun h => h e2
  have hend : (∀ i, j ≤ i → i < ops.size → dsAt ops i ≠ some t) → (T j).a[t]? = (T ops.size).a[t]? := fun h => by
    have := t_slot hD hT (t := t) (ops.size - j) j (by omega) fun i h1 h2 _ => h i h1 (by omega)
    rw [show j + (ops.size - j) = ops.size by omega] at this
    exact this.symm
  by_cases hw : ∃ i, i < ops.size ∧ dsAt ops i = some t
  · obtain ⟨i, hi, hdi⟩ := hw
    rcases (hD.slots hi hj hdi).1 ht with hb | ⟨_, hna, hb⟩
    · have hxi := before_ex hD hR hj hd hi hb
      rw [maskP_off]
      · refine hend fun k h1 h2 he => ?_
        have := huniq hi h2 hdi he
        have := before_lt hD hj hi hb
        omega
      · rintro ⟨k, h1, h2, h3⟩
        have := huniq hi h1 hdi h2
        subst this
        exact h3 hxi
    · have hxi : ¬ exOf listed i := fun hx => by
        rcases hb with hb | hb
        · exact hnx (before_ex hD hR hi (hR.closed i hi hx) hj hb)
        · subst hb; exact hnx hx
      have hji : j ≤ i := by
        rcases hb with hb | hb
        · have := before_lt hD hi hj hb; omega
        · omega
      have h1 := t_slot hD hT (t := t) j 0 (by omega) fun k _ h2 _ he => by
        have := huniq hi (by omega) hdi he
        omega
      have h2 := u_slot hD hT (t := t) ops.size 0 (by omega) fun k _ h2 hk he => by
        have := huniq hi (by omega) hdi he
        subst this
        have := kd_alloc hk
        rw [hna] at this
        cases this
      rw [Nat.zero_add] at h1 h2
      rw [h1, hT.t0, h2, hT.u0]
      rcases Nat.lt_or_ge t (T ops.size).a.length with hlt | hge
      · rw [maskP_on ⟨i, hi, hdi, hxi⟩ hlt]
        rw [(a_len hD hT ops.size (Nat.le_refl _)).2] at hlt
        rw [List.getElem?_eq_getElem hlt]
        rfl
      · rw [List.getElem?_eq_none (by rw [← (a_len hD hT ops.size (Nat.le_refl _)).2]; exact hge), List.getElem?_eq_none (by rw [maskP_len]; exact hge)]
  · rw [maskP_off]
    · exact hend fun k _ h2 he => hw ⟨k, h2, he⟩
    · rintro ⟨k, h1, h2, _⟩
      exact hw ⟨k, h1, h2⟩
end
end Go.Ev
namespace Go.Ev
open Go

section
variable {W : Nat → Prop} {ρ0 : Rho} {H0 : List ABlk} {F0 : Fz} {w0 w : World}
variable {tr : Nat} {E : Env} {ops : Array Oper} {M : List Nat} {ks : List (Nat × PI)} {s : St} {U T : Nat → St}
variable (hD : DC tr E.P ops M ks) (hT : Traj E ops ks s U T) (hin : ∀ j, j < ops.size → kdAt tr E.P ops j = 0 → ∀ d, dsAt ops j = some d → d < s.a.length)
variable (hpairs : pairsOk E (T ops.size).a (pairsOf ops.size M ks) = true)
variable (hG0 : GOk E F0 w0) (hcalls : ∀ f, FnOk E.P E.G f (E.call f))

theorem dead_same {listed : Array Bool} (hsz : listed.size = ops.size) {i : Nat} (hi : i < ops.size) (hk : kdAt tr E.P ops i ≠ 0) : deadIds tr E.P ops U (listed.setIfInBounds i true) = deadIds tr E.P ops U listed := by
  funext id
  refine propext ⟨fun ⟨b, h1, h2, h3, h4⟩ => ⟨b, h1, h2, fun h => h3 ((ex_set (hsz ▸ hi)).2 (.inl h)), h4⟩, fun ⟨b, h1, h2, h3, h4⟩ => ⟨b, h1, h2, fun h => ?_, h4⟩⟩
  rcases (ex_set (hsz ▸ hi)).1 h with h | h
  · exact h3 h
  · subst h; exact hk h2

include hD
/-- behind an operation that put x into its slot -/
theorem RInv.next {m m' : Nat} {listed : Array Bool} {ac ac' : Act} {w' : World} (hR : RInv W ρ0 H0 F0 w0 tr E ops s.a U T m listed ac w) {i : Nat} (hi : i < ops.size) (hdi : ∀ j ∈ direct (opAt ops i), exOf listed j)
    (hm' : m' ≤ ops.size) (hheavy : ∀ j, j < ops.size → kdAt tr E.P ops j = 2 → (exOf (listed.setIfInBounds i true) j ↔ j < m'))
    {x : AVal} (hx : ∀ d, dsAt ops i = some d → d < (T ops.size).a.length → (T ops.size).a[d]? = some x)
    (hI : Inv W ρ0 H0 F0 w0 ⟨putA (maskP (T ops.size).a s.a (openSlots ops listed)) (dsAt ops i) x, killP (T m').H (deadIds tr E.P ops U (listed.setIfInBounds i true))⟩ ac' w') :
    RInv W ρ0 H0 F0 w0 tr E ops s.a U T m' (listed.setIfInBounds i true) ac' w' := by
  refine ⟨by simpa using hR.size, fun j hj hx k hk => ?_, hm', hheavy, by rw [mask_step hD hR.size hi hx]; exact hI⟩
  have his : i < listed.size := by rw [hR.size]; exact hi
  rcases (ex_set his).1 hx with h | h
  · exact (ex_set his).2 (.inl (hR.closed j hj h k hk))
  · subst h; exact (ex_set his).2 (.inl (hdi k hk))

include hG0 hcalls in
/-- an operation, from what the evaluator reckons -/
theorem step_gen {ac : Act} {i : Nat} {a : List AVal} {H H' : List ABlk} {b : Bool} {x : AVal} {Q : Exit → Act → World → Prop} {K : Act → World → Prop} (hi : i < ops.size)
    (hI : Inv W ρ0 H0 F0 w0 ⟨a, H⟩ ac w) (hg : gOut E a (gdAt ops i) = some b)
    (h1 : b = true → (evalOp E a H (poAt tr E.P ops i)).run = some (x, H')) (h2 : b = false → x = .v (.tuple #[]) ∧ H' = H)
    (hK : ∀ ac' w', Inv W ρ0 H0 F0 w0 ⟨putA a (dsAt ops i) x, H'⟩ ac' w' → K ac' w') : wpOp E.P ops Q i K ac w := by
  obtain ⟨hd, ρ, F, hAdv, hH, hA⟩ := hI
  have hw := wanted_gOut (hD.guard i hi) hA hg
  unfold wpOp
  simp only [opAt_eq hi, hw]
  cases b with
  | true =>
    rw [if_pos rfl]
    refine .inl (op_soundT tr hA hH (hG0.adv hAdv) hcalls (h1 rfl) K Q fun x' w' hp => ?_)
    obtain ⟨ρ', F', a1, a2, a3⟩ := hp
    exact hK _ _ ⟨(put_defers _ _).trans hd, ρ', F', hAdv.trans a1, a2, (hA.adv a1).putA _ a3⟩
  | false =>
    rw [if_neg (by simp)]
    obtain ⟨e1, e2⟩ := h2 rfl
    subst e1 e2
    exact hK _ _ ⟨(put_defers _ _).trans hd, ρ, F, hAdv, hH, hA.putA _ (.ofv _)⟩

include hT hin hpairs hG0 hcalls

theorem step_float {m : Nat} {listed : Array Bool} {ac : Act} (hR : RInv W ρ0 H0 F0 w0 tr E ops s.a U T m listed ac w) {i : Nat} (hi : i < ops.size) (hk : kdAt tr E.P ops i = 1) (hnx : ¬ exOf listed i) (hdi : ∀ j ∈ direct (opAt ops i), exOf listed j)
    {Q : Exit → Act → World → Prop} {K : Act → World → Prop} (hK : ∀ ac' w', RInv W ρ0 H0 F0 w0 tr E ops s.a U T m (listed.setIfInBounds i true) ac' w' → K ac' w') : wpOp E.P ops Q i K ac w := by
  obtain ⟨b, x, g1, g2, g3, g4⟩ := t_float hD hT hi hk
  have hread := mask_read hD hT hR hi hnx hdi
  have hne : kdAt tr E.P ops i ≠ 0 := by omega
  refine step_gen hD hG0 hcalls (H' := killP (T m).H (deadIds tr E.P ops U listed)) hi hR.inv ((gOut_slots hread.left).symm.trans g1) (fun hb => ?_) (fun hb => ⟨g4 hb, rfl⟩) fun ac' w' hI' => hK ac' w' ?_
  · have he := g3 hb
    rw [evalOp_slots _ hread.right] at he
    refine (evalOp_float (kd_float hk) he).2 _ fun id hid => ?_
    -- the block that is looked at stands in the heap at hand
    have hlive : ∃ b', (killP (T m).H (deadIds tr E.P ops U listed))[id]? = some b' ∧ b'.dead = false := by
      obtain ⟨hd0, ρ, F, hAdv, hH, hA⟩ := hR.inv
      have harg : ∀ (y : Arg), argBare y = true → id ∈ idsOf (evalA E (maskP (T ops.size).a s.a (openSlots ops listed)) y) → ∃ b', (killP (T m).H (deadIds tr E.P ops U listed))[id]? = some b' ∧ b'.dead = false := fun y hy hm => by
        cases y with
        | c z =>
          exfalso
          have hm' : id ∈ idsOf z := hm
          cases z <;> first | (cases hm'; done) | (cases hy; done)
        | g n =>
          exfalso
          have hm' : id ∈ idsOf (.tptr (mapL .v (E.G n))) := hm
          cases hm'
        | t n =>
          rw [evalA_t] at hm
          cases hn : (maskP (T ops.size).a s.a (openSlots ops listed))[n]? with
          | none => rw [hn] at hm; cases hm
          | some u =>
          rw [hn] at hm
          simp only [Option.getD_some] at hm
          have hlt : n < ac.tmps.size := hA.1 ▸ (List.getElem?_eq_some_iff.1 hn).1
          have hW := hA.2 n u _ hn (Array.getElem?_eq_getElem hlt)
          cases u with
          | ptr id' i c g =>
            have : id = id' := by simpa [idsOf] using hm
            subst this
            obtain ⟨_, b', _, h1, h2, _⟩ := inv_ptr hW
            exact ⟨b', h1, h2⟩
          | sl id' off n g =>
            have : id = id' := by simpa [idsOf] using hm
            subst this
            obtain ⟨_, _, b', _, h1, h2, _⟩ := inv_sl hW
            exact ⟨b', h1, h2⟩
          | _ => cases hm
      have hbare := hD.bare hi
      revert hbare hid
      generalize poAt tr E.P ops i = q
      intro hid hbare
      cases q with
      | load ks n agg y => exact harg y hbare hid
      | idxS es y z => exact harg y hbare hid
      | slice es y lo hi => exact harg y hbare hid
      | _ => cases hid
    obtain ⟨b', hb1, hb2⟩ := hlive
    obtain ⟨hnD, hb3⟩ := killP_live hb1 hb2
    have huse : id ∈ usesOf E (T ops.size).a (poAt tr E.P ops i) := by
      rw [← uses_end hD hT hi, usesOf_slots hread.right]; exact hid
    -- nobody between touches it
    have hbetween : ∀ j, j < ops.size → kdAt tr E.P ops j = 2 → isBefore M i j = false → isBefore M j i = false → id ∉ touchOf E (T ops.size).a (poAt tr E.P ops j) := fun j hj hkj h1 h2 =>
      pairsOk_at hpairs (hD.pair hj hi hk hkj h2 h1) id huse
    have hlike : LikeAt (T i).H (T m).H id := by
      rcases Nat.lt_or_ge i m with him | him
      · have := t_like hD hT hin (id := id) (m - i) i (by have := hR.hm; omega) fun j h1 h2 hkj => by
          have hj : j < ops.size := by have := hR.hm; omega
          have hxj := (hR.heavy j hj hkj).2 (by omega)
          refine hbetween j hj hkj ?_ ?_
          · cases hc : isBefore M i j with
            | false => rfl
            | true => exact absurd (before_ex hD hR hj (hR.closed j hj hxj) hi hc) hnx
          · cases hc : isBefore M j i with
            | false => rfl
            | true => have := before_lt hD hi hj hc; omega
        rwa [show i + (m - i) = m by omega] at this
      · have := t_like hD hT hin (id := id) (i - m) m (by omega) fun j h1 h2 hkj => by
          have hj : j < ops.size := by omega
          have hxj : ¬ exOf listed j := fun h => by have := (hR.heavy j hj hkj).1 h; omega
          refine hbetween j hj hkj ?_ ?_
          · cases hc : isBefore M i j with
            | false => rfl
            | true => have := before_lt hD hj hi hc; omega
          · cases hc : isBefore M j i with
            | false => rfl
            | true => exact absurd (before_ex hD hR hi hdi hj hc) hxj
        rw [show m + (i - m) = i by omega] at this
        intro b0 hb0
        obtain ⟨b2, h3, h4⟩ := this b' hb3
        have : b2 = b0 := Option.some.inj (h3.symm.trans hb0)
        subst this
        exact ⟨b', hb3, h4.1.symm, h4.2.1.symm, h4.2.2.1.symm, h4.2.2.2.1.symm, h4.2.2.2.2.symm⟩
    refine hlike.trans fun b0 hb0 => ⟨b0, ?_, .refl b0⟩
    rw [killP_off hnD]; exact hb0
  · refine RInv.next hD hR hi hdi hR.hm (fun j hj hkj => ?_) (x := x) (fun d hd hlt => ?_) ?_
    · rw [ex_set (hR.size ▸ hi)]
      rw [← hR.heavy j hj hkj]
      exact ⟨fun h => h.resolve_right fun e => by subst e; omega, .inl⟩
    · rw [a_dst hD hT hi hd, g2, hd]
      refine putA_on ?_
      rw [(a_len hD hT i (by omega)).2, ← (a_len hD hT ops.size (Nat.le_refl _)).2]
      exact hlt
    · rw [dead_same hR.size hi hne]; exact hI'

omit hpairs in
theorem step_heavy {m : Nat} {listed : Array Bool} {ac : Act} (hR : RInv W ρ0 H0 F0 w0 tr E ops s.a U T m listed ac w) {i : Nat} (hi : i < ops.size) (hk : kdAt tr E.P ops i = 2) (hnx : ¬ exOf listed i) (hdi : ∀ j ∈ direct (opAt ops i), exOf listed j)
    {Q : Exit → Act → World → Prop} {K : Act → World → Prop} (hK : ∀ ac' w', RInv W ρ0 H0 F0 w0 tr E ops s.a U T (i + 1) (listed.setIfInBounds i true) ac' w' → K ac' w') : wpOp E.P ops Q i K ac w := by
  obtain ⟨b, x, g1, g2, g3, g4⟩ := t_heavy hD hT hin hi hk
  have hread := mask_read hD hT hR hi hnx hdi
  have hne : kdAt tr E.P ops i ≠ 0 := by omega
  have hmi : m ≤ i := by
    rcases Nat.lt_or_ge i m with h | h
    · exact absurd ((hR.heavy i hi hk).2 h) hnx
    · exact h
  have hno : ∀ j, m ≤ j → j < i → kdAt tr E.P ops j ≠ 2 := fun j h1 h2 hkj => by
    have hj : j < ops.size := by omega
    have := (hR.heavy j hj hkj).1 (before_ex hD hR hi hdi hj (hD.chain h2 hi hkj hk).1)
    omega
  have hsame : (T m).H = (T i).H := by
    have := t_same hD hT (i - m) m (by omega) fun j h1 h2 => hno j h1 (by omega)
    rw [show m + (i - m) = i by omega] at this
    exact this.symm
  have hfin : ∀ {H' : List ABlk} {ac' : Act} {w' : World}, H' = killP (T (i + 1)).H (deadIds tr E.P ops U listed) → Inv W ρ0 H0 F0 w0 ⟨putA (maskP (T ops.size).a s.a (openSlots ops listed)) (dsAt ops i) x, H'⟩ ac' w' → K ac' w' := fun {H' ac' w'} e hI' => by
    refine hK ac' w' (RInv.next hD hR hi hdi (by omega) (fun j hj hkj => ?_) (x := x) (fun d hd hlt => ?_) ?_)
    · rw [ex_set (hR.size ▸ hi)]
      constructor
      · rintro (h | h)
        · have := (hR.heavy j hj hkj).1 h; omega
        · omega
      · intro h
        by_cases e : j = i
        · exact .inr e
        · refine .inl ((hR.heavy j hj hkj).2 ?_)
          rcases Nat.lt_or_ge j m with h' | h'
          · exact h'
          · exact absurd hkj (hno j h' (by omega))
    · rw [a_dst hD hT hi hd, g2, hd]
      refine putA_on ?_
      rw [(a_len hD hT i (by omega)).2, ← (a_len hD hT ops.size (Nat.le_refl _)).2]
      exact hlt
    · rw [dead_same hR.size hi hne, ← e]; exact hI'
  cases b with
  | false =>
    obtain ⟨h1, h2⟩ := g4 rfl
    exact step_gen hD hG0 hcalls (x := x) (H' := killP (T m).H (deadIds tr E.P ops U listed)) hi hR.inv ((gOut_slots hread.left).symm.trans g1) (fun h => by cases h) (fun _ => ⟨h1, rfl⟩) fun ac' w' hI' => hfin (by rw [h2, hsame]) hI'
  | true =>
    obtain ⟨hid, H', h5, h6, h7⟩ := g3 rfl
    rw [evalOp_slots _ hread.right] at h6
    have hall : ∀ id ∈ hid, id < (T i).H.length := fun id hid' => by
      obtain ⟨b', k1, k2, k3, rfl⟩ := (h5 id).1 hid'
      exact t_hall hD hT hin hi hk k1 k2 k3
    have hsub : ∀ id, deadIds tr E.P ops U listed id → id ∈ hid := fun id ⟨b', k1, k2, k3, k4⟩ => by
      refine (h5 id).2 ⟨b', k1, k2, ?_, k4⟩
      cases hc : isBefore M b' i with
      | false => rfl
      | true => exact absurd (before_ex hD hR hi hdi k1 hc) k3
    have hMono : Mono (· ∈ hid) (killP (T i).H (· ∈ hid)) (killP (T i).H (deadIds tr E.P ops U listed)) (killP (T i).H (· ∈ hid)) (killP (T i).H (deadIds tr E.P ops U listed)) := by
      refine ⟨by rw [killP_len, killP_len], fun id hn => ?_, fun id b hm hb => ?_, fun _ _ => rfl, fun _ _ => rfl, fun id h => by rw [killP_len]; exact hall id h⟩
      · rw [killP_off (D := (· ∈ hid)) hn, killP_off fun h => hn (hsub id h)]
      · rw [killP_on (D := (· ∈ hid)) hm] at hb
        simp only [Option.map_eq_some_iff] at hb
        obtain ⟨c, _, rfl⟩ := hb
        rfl
    obtain ⟨H2', h8, h9⟩ := hMono.evalOp (kd_heavy hk) h6
    refine step_gen hD hG0 hcalls (x := x) (H' := H2') hi hR.inv ((gOut_slots hread.left).symm.trans g1) (fun _ => by rw [hsame]; exact h8) (fun h => by cases h) fun ac' w' hI' => hfin ?_ hI'
    refine List.ext_getElem? fun id => ?_
    rw [h7]
    by_cases hm : id ∈ hid
    · rw [h9.at2 id hm]
      have hr := revive_on (H0 := (T i).H) (H := H') hm (hall id hm) (h9.bound id hm)
      by_cases hd : deadIds tr E.P ops U listed id
      · rw [killP_on hd, killP_on hd, hr]
      · rw [killP_off hd, killP_off hd, hr]
    · rw [← h9.same id hm, killP_off fun h => hm (hsub id h), revive_off hm]
end
end Go.Ev
namespace Go.Ev
open Go

section
variable {W : Nat → Prop} {ρ0 : Rho} {H0 : List ABlk} {F0 : Fz} {w0 w : World}
variable {tr : Nat} {E : Env} {ops : Array Oper} {M : List Nat} {ks : List (Nat × PI)} {s : St} {U T : Nat → St}
variable (hD : DC tr E.P ops M ks) (hT : Traj E ops ks s U T) (hin : ∀ j, j < ops.size → kdAt tr E.P ops j = 0 → ∀ d, dsAt ops j = some d → d < s.a.length) (hlen : H0.length ≤ s.H.length)
include hD hT hin hlen

theorem step_alloc {m : Nat} {listed : Array Bool} {ac : Act} (hR : RInv W ρ0 H0 F0 w0 tr E ops s.a U T m listed ac w) {i : Nat} (hi : i < ops.size) (hk : kdAt tr E.P ops i = 0) (hnx : ¬ exOf listed i) (hdi : ∀ j ∈ direct (opAt ops i), exOf listed j)
    {Q : Exit → Act → World → Prop} {K : Act → World → Prop} (hK : ∀ ac' w', RInv W ρ0 H0 F0 w0 tr E ops s.a U T m (listed.setIfInBounds i true) ac' w' → K ac' w') : wpOp E.P ops Q i K ac w := by
  obtain ⟨t, z, d, ho, hgn, hz, hd, hU⟩ := u_alloc hD hT hi hk
  obtain ⟨hd0, ρ, F, hAdv, hH, hA⟩ := hR.inv
  simp only at hAdv hH hA
  generalize hHS : killP (T m).H (deadIds tr E.P ops U listed) = HS at hAdv hH hA
  have hHSlen : HS.length = (T m).H.length := by rw [← hHS, killP_len]
  have his : i < listed.size := by rw [hR.size]; exact hi
  -- the block stands in the text's heap, as it was made
  have hblk : (T m).H[(U i).H.length]? = some (zeroBlk z) := by
    have h1 := t_zero hD hT hin hi hk m hR.hm fun h h1 h2 => by
      cases hc : isBefore M i h with
      | false => rfl
      | true =>
        have hh : h < ops.size := by have := hR.hm; omega
        exact absurd (before_ex hD hR hh (hR.closed h hh ((hR.heavy h hh h2).2 h1)) hi hc) hnx
    obtain ⟨t', z', h2, h3, h4⟩ := u_zero hD hT hi hk
    have : t' = t := by rw [ho] at h2; injection h2 with h2; exact h2.symm
    subst this
    have : z' = z := Option.some.inj (h3.symm.trans hz)
    subst this
    rw [h1, h4]
  have hidlt : (U i).H.length < HS.length := by rw [hHSlen]; exact (List.getElem?_eq_some_iff.1 hblk).1
  have hidge : s.H.length ≤ (U i).H.length := (u_base hD hT (by omega)).1
  have hdead : deadIds tr E.P ops U listed (U i).H.length := ⟨i, hi, hk, hnx, rfl⟩
  have hinj : ∀ b, b < ops.size → kdAt tr E.P ops b = 0 → (U i).H.length = (U b).H.length → b = i := fun b hb hkb he => by
    rcases Nat.lt_trichotomy b i with h | h | h
    · have := u_lt hD hT h (by omega) hkb; omega
    · exact h
    · have := u_lt hD hT h (by omega) hk; omega
  have hdead' : ∀ id, deadIds tr E.P ops U (listed.setIfInBounds i true) id ↔ deadIds tr E.P ops U listed id ∧ id ≠ (U i).H.length := fun id => by
    constructor
    · rintro ⟨b, h1, h2, h3, h4⟩
      refine ⟨⟨b, h1, h2, fun h => h3 ((ex_set his).2 (.inl h)), h4⟩, fun e => h3 ((ex_set his).2 (.inr ?_))⟩
      exact hinj b h1 h2 (e.symm.trans h4)
    · rintro ⟨⟨b, h1, h2, h3, h4⟩, h5⟩
      refine ⟨b, h1, h2, fun h => ?_, h4⟩
      rcases (ex_set his).1 h with h | h
      · exact h3 h
      · subst h; exact h5 h4
  generalize hHS' : killP (T m).H (deadIds tr E.P ops U (listed.setIfInBounds i true)) = HS'
  have hoff : ∀ id, id ≠ (U i).H.length → HS'[id]? = HS[id]? := fun id hne => by
    rw [← hHS', ← hHS]
    by_cases h : deadIds tr E.P ops U listed id
    · rw [killP_on h, killP_on ((hdead' id).2 ⟨h, hne⟩)]
    · rw [killP_off h, killP_off fun h' => h ((hdead' id).1 h').1]
  have hon : HS'[(U i).H.length]? = some (zeroBlk z) := by
    rw [← hHS', killP_off fun h' => ((hdead' _).1 h').2 rfl]
    exact hblk
  have hHSdead : ∀ b, HS[(U i).H.length]? = some b → b.dead = true := fun b hb => by
    rw [← hHS, killP_on hdead] at hb
    simp only [Option.map_eq_some_iff] at hb
    obtain ⟨c, _, rfl⟩ := hb
    rfl
  -- the operation
  have hev : (evalOp E (maskP (T ops.size).a s.a (openSlots ops listed)) HS (.alloc z)).run = some (.ptr HS.length 0 0 0, HS ++ [zeroBlk z]) := by
    simp only [evalOp, DT.run_ret, len_eq, newBlk, app_eq, zeroBlk]
  unfold wpOp
  have hw : Region.wanted (opAt ops i) (yielded ops ac.tmps) = true := by simp [Region.wanted, hgn]
  simp only [opAt_eq hi, hw]
  rw [if_pos trivial]
  refine .inl (sound_alloc hH ho hz hev K Q fun x' w' hp => hK _ _ (RInv.next hD hR hi hdi hR.hm (fun j hj hkj => ?_) (x := .ptr (U i).H.length 0 0 0) (fun d' hd' hlt => ?_) ?_))
  · rw [ex_set his, ← hR.heavy j hj hkj]
    exact ⟨fun h => h.resolve_right fun e => by subst e; omega, .inl⟩
  · refine a_alloc hD hT hi hk hd' ?_ (Nat.le_refl _)
    rw [← (a_len hD hT ops.size (Nat.le_refl _)).2]
    exact hlt
  · obtain ⟨ρ', F', a1, a2, a3⟩ := hp
    rw [hHS']
    have hadv := hAdv.trans a1
    let ρ2 : Rho := fun id => if id = (U i).H.length then ρ' HS.length else ρ' id
    have hρ2 : ∀ id, id ≠ (U i).H.length → ρ2 id = ρ' id := fun id h => if_neg h
    have hρ2' : ρ2 (U i).H.length = ρ' HS.length := if_pos rfl
    have hold : ∀ id b, HS'[id]? = some b → id ≠ (U i).H.length → (HS ++ [zeroBlk z])[id]? = some b := fun id b hb hne => by
      rw [hoff id hne] at hb
      rw [List.getElem?_append_left (List.getElem?_eq_some_iff.1 hb).1]
      exact hb
    have hN : (HS ++ [zeroBlk z])[HS.length]? = some (zeroBlk z) := by simp
    refine ⟨(put_defers _ _).trans hd0, ρ2, F', ⟨hadv.ext, fun id b hb => ?_, hadv.more, hadv.new, fun id b' hb' hn => ?_⟩, ?_, ?_⟩
    · have hidH : id < s.H.length := by have := (List.getElem?_eq_some_iff.1 hb).1; omega
      have hne : id ≠ (U i).H.length := by omega
      obtain ⟨b', h1, h2⟩ := hadv.heap id b hb
      rw [List.getElem?_append_left (by omega)] at h1
      refine ⟨b', by rw [hoff id hne]; exact h1, ?_⟩
      rw [hρ2 id hne]
      exact h2
    · by_cases he : id = (U i).H.length
      · subst he
        rw [hρ2']
        exact hadv.fresh HS.length _ hN fun b hb => by have := (List.getElem?_eq_some_iff.1 hb).1; omega
      · rw [hρ2 id he]
        exact hadv.fresh id b' (hold id b' hb' he) hn
    · refine a2.pull (fun id => if id = (U i).H.length then HS.length else id) (fun id b hb hdd => ?_) fun id id' b b' hb hdd hb' hdd' he => ?_
      · by_cases e : id = (U i).H.length
        · subst e
          simp only [if_true]
          have : b = zeroBlk z := Option.some.inj (hb.symm.trans hon)
          subst this
          exact ⟨hN, hρ2'⟩
        · simp only [if_neg e]
          exact ⟨hold id b hb e, hρ2 id e⟩
      · have hlt : ∀ id b, HS'[id]? = some b → id ≠ (U i).H.length → id < HS.length := fun id b hb hne => by
          rw [hoff id hne] at hb
          exact (List.getElem?_eq_some_iff.1 hb).1
        by_cases e : id = (U i).H.length
        · by_cases e' : id' = (U i).H.length
          · rw [e, e']
          · simp only [if_pos e, if_neg e'] at he
            have := hlt id' b' hb' e'
            omega
        · by_cases e' : id' = (U i).H.length
          · simp only [if_neg e, if_pos e'] at he
            have := hlt id b hb e
            omega
          · simpa only [if_neg e, if_neg e'] using he
    · have hA2 : ARel ρ2 HS' F' w' (maskP (T ops.size).a s.a (openSlots ops listed)) ac.tmps := by
        refine hA.carry (fun id b hb hdd => ?_) a1.more a1.ext.cells
        have hne : id ≠ (U i).H.length := fun e => by
          subst e
          rw [hHSdead b hb] at hdd
          cases hdd
        obtain ⟨b', h1, h2, h3, h4⟩ := a1.heap id b hb
        rw [List.getElem?_append_left (List.getElem?_eq_some_iff.1 hb).1] at h1
        refine ⟨b', by rw [hoff id hne]; exact h1, h2.trans hdd, h3, fun hg => ?_⟩
        rw [hρ2 id hne]
        exact h4 hg
      have hW : WRel ρ2 HS' F' w' (.ptr (U i).H.length 0 0 0) x' := by
        obtain ⟨ad, b, e, h1, h2, h3, h4⟩ := inv_ptr a3
        have : b = zeroBlk z := Option.some.inj (h1.symm.trans hN)
        subst this
        rw [e]
        refine .val (.cell (.ptr _ 0 0 0 ad _ hon rfl (Nat.le_refl _) fun _ => ?_))
        rw [hρ2']
        exact h4 rfl
      exact hA2.putA (dsAt ops i) hW

omit hin in
/-- the beginning -/
theorem draw_start {ac : Act} (hI : Inv W ρ0 H0 F0 w0 s ac w) :
    RInv W ρ0 H0 F0 w0 tr E ops s.a U T 0 (Array.replicate ops.size false) ac { w with drawn := w.drawn + 1 } := by
  have hnx : ∀ j, j < ops.size → ¬ exOf (Array.replicate ops.size false) j := fun j hj h => by
    unfold exOf at h
    simp [Array.getD, hj] at h
  obtain ⟨hd0, ρ, F, hAdv, hH, hA⟩ := hI
  have hdead : ∀ id, deadIds tr E.P ops U (Array.replicate ops.size false) id → s.H.length ≤ id := fun id ⟨b, h1, _, _, h4⟩ => by
    have := (u_base hD hT (j := b) (by omega)).1
    omega
  have hlow : ∀ id, id < s.H.length → (killP (T 0).H (deadIds tr E.P ops U (Array.replicate ops.size false)))[id]? = s.H[id]? := fun id hid => by
    rw [killP_off fun h => by have := hdead id h; omega, hT.t0]
    exact (u_base hD hT (Nat.le_refl _)).2 id hid
  have hhigh : ∀ id b, (killP (T 0).H (deadIds tr E.P ops U (Array.replicate ops.size false)))[id]? = some b → s.H.length ≤ id → b.dead = true := fun id b hb hge => by
    have hlt : id < (T 0).H.length := by
      have := (List.getElem?_eq_some_iff.1 hb).1
      rwa [killP_len] at this
    rw [hT.t0] at hlt
    obtain ⟨j, h1, h2, h3⟩ := u_all hD hT ops.size (Nat.le_refl _) id hge hlt
    rw [killP_on (show deadIds tr E.P ops U (Array.replicate ops.size false) id from ⟨j, h1, h2, hnx j h1, h3⟩)] at hb
    simp only [Option.map_eq_some_iff] at hb
    obtain ⟨c, _, rfl⟩ := hb
    rfl
  have hH' : HRel W ρ s.H F { w with drawn := w.drawn + 1 } := hH.same rfl
  have hAdv' : Adv W ρ0 H0 F0 w0 ρ s.H F { w with drawn := w.drawn + 1 } := hAdv.trans (.same rfl rfl rfl rfl)
  let ρ1 : Rho := fun id => if id < s.H.length then ρ id else ⟨w.heap.size, 0, 0⟩
  have hρ1 : ∀ id, id < s.H.length → ρ1 id = ρ id := fun id h => if_pos h
  have hlive : ∀ id b, (killP (T 0).H (deadIds tr E.P ops U (Array.replicate ops.size false)))[id]? = some b → b.dead = false → id < s.H.length := fun id b hb hd => by
    rcases Nat.lt_or_ge id s.H.length with h | h
    · exact h
    · rw [hhigh id b hb h] at hd; cases hd
  refine ⟨by simp, fun j hj hx => absurd hx (hnx j hj), Nat.zero_le _, fun j hj _ => ⟨fun h => absurd h (hnx j hj), fun h => by omega⟩, hd0, ρ1, F, ⟨hAdv'.ext, fun id b hb => ?_, hAdv'.more, hAdv'.new, fun id b hb hn => ?_⟩, ?_, ?_⟩
  · have hid : id < s.H.length := by have := (List.getElem?_eq_some_iff.1 hb).1; omega
    obtain ⟨b', h1, h2⟩ := hAdv'.heap id b hb
    refine ⟨b', (hlow id hid).trans h1, ?_⟩
    rw [hρ1 id hid]
    exact h2
  · simp only at hb
    by_cases hid : id < s.H.length
    · rw [hlow id hid] at hb
      rw [hρ1 id hid]
      exact hAdv'.fresh id b hb hn
    · show W (if id < s.H.length then ρ id else ⟨w.heap.size, 0, 0⟩).blk
      rw [if_neg hid]
      exact hH.new _ (Nat.le_refl _)
  · refine hH'.pull (fun id => id) (fun id b hb hd => ?_) fun _ _ _ _ _ _ _ _ h => h
    have hid := hlive id b hb hd
    rw [← hlow id hid]
    exact ⟨hb, hρ1 id hid⟩
  · have hcarry : Carry ρ s.H ρ1 (killP (T 0).H (deadIds tr E.P ops U (Array.replicate ops.size false))) := fun id b hb hd => by
      have hid := (List.getElem?_eq_some_iff.1 hb).1
      exact ⟨b, (hlow id hid).trans hb, hd, Nat.le_refl _, fun _ => ⟨hρ1 id hid, rfl, Nat.le_refl _⟩⟩
    refine ⟨by rw [maskP_len, (a_len hD hT ops.size (Nat.le_refl _)).2]; exact hA.1, fun t x x' hx hx' => ?_⟩
    simp only at hx
    by_cases ht : openSlots ops (Array.replicate ops.size false) t
    · have hlt : t < (T ops.size).a.length := by
        have := (List.getElem?_eq_some_iff.1 hx).1
        rwa [maskP_len] at this
      rw [maskP_on ht hlt] at hx
      injection hx with hx
      rw [(a_len hD hT ops.size (Nat.le_refl _)).2] at hlt
      rw [List.getElem?_eq_getElem hlt, Option.getD_some] at hx
      exact WRel.carry (w := w) (w' := { w with drawn := w.drawn + 1 }) hcarry (fun _ _ h => h) (fun _ _ _ => rfl) (hA.2 t x x' (by rw [← hx]; exact List.getElem?_eq_getElem hlt) hx')
    · rw [maskP_off ht] at hx
      have hno : ∀ j, j < ops.size → dsAt ops j ≠ some t := fun j hj he => ht ⟨j, hj, he, hnx j hj⟩
      have h1 := t_slot hD hT (t := t) ops.size 0 (by omega) fun j _ h2 _ => hno j (by omega)
      have h2 := u_slot hD hT (t := t) ops.size 0 (by omega) fun j _ h2 _ => hno j (by omega)
      rw [Nat.zero_add] at h1 h2
      rw [h1, hT.t0, h2, hT.u0] at hx
      exact WRel.carry (w := w) (w' := { w with drawn := w.drawn + 1 }) hcarry (fun _ _ h => h) (fun _ _ _ => rfl) (hA.2 t x x' hx hx')

omit hin hlen in
/-- the end -/
theorem draw_end {m : Nat} {listed : Array Bool} {ac : Act} (hR : RInv W ρ0 H0 F0 w0 tr E ops s.a U T m listed ac w) (hall : ∀ j, j < ops.size → exOf listed j) : Inv W ρ0 H0 F0 w0 (T ops.size) ac w := by
  have h1 : maskP (T ops.size).a s.a (openSlots ops listed) = (T ops.size).a := maskP_none fun t ⟨j, h1, _, h3⟩ => h3 (hall j h1)
  have h2 : killP (T m).H (deadIds tr E.P ops U listed) = (T ops.size).H := by
    rw [killP_none fun id ⟨b, h1, _, h3, _⟩ => h3 (hall b h1)]
    have := t_same hD hT (ops.size - m) m (by have := hR.hm; omega) fun j h3 h4 hk => by
      have hj : j < ops.size := by have := hR.hm; omega
      have := (hR.heavy j hj hk).1 (hall j hj)
      omega
    rw [show m + (ops.size - m) = ops.size by have := hR.hm; omega] at this
    exact this.symm
  have h3 := hR.inv
  rw [h1, h2] at h3
  exact h3

omit hT hin hlen in
theorem ready_nil {listed : Array Bool} (hsz : listed.size = ops.size) (h : Region.ready .any ops listed = []) : ∀ j, j < ops.size → exOf listed j := by
  intro j
  induction j using Nat.strongRecOn with
  | _ j ih =>
    intro hj
    apply Classical.byContradiction
    intro hn
    have hmem : j ∈ Region.ready .any ops listed := by
      unfold Region.ready
      rw [List.mem_filter]
      refine ⟨List.mem_range.2 hj, ?_⟩
      rw [opAt_eq hj]
      simp only [Option.map_some, Option.getD_some, Bool.and_eq_true, Bool.not_eq_true']
      refine ⟨by unfold exOf at hn; simpa using hn, ?_⟩
      rw [Array.all_eq_true_iff_forall_mem]
      intro e he
      cases hb : Region.binds .any e with
      | false => rfl
      | true =>
        have hd : e.on ∈ direct (opAt ops j) := mem_direct.2 ⟨e, he, hb, rfl⟩
        have hlt := rows_lt hD.rows (opAt_eq hj) hd
        have := ih e.on hlt (by omega)
        unfold exOf at this
        have h2 : e.on < listed.size := by omega
        simp only [Array.getD, h2, dite_true] at this ⊢
        simpa using this
    rw [h] at hmem
    cases hmem

/-- how many have not come up -/
noncomputable def openCount (listed : Array Bool) : Nat := (listed.toList.filter fun b => !b).length
omit hD hT hin hlen in
theorem openCount_set : ∀ (l : List Bool) (i : Nat), l[i]? = some false → ((l.set i true).filter fun b => !b).length + 1 = (l.filter fun b => !b).length
  | [], i, h => by simp at h
  | b :: l, 0, h => by
    simp at h
    subst h
    simp
  | b :: l, i + 1, h => by
    have ih := openCount_set l i (by simpa using h)
    simp only [List.set_cons_succ, List.filter_cons]
    cases b <;> simp [ih]
omit hD hT hin hlen in
theorem openCount_zero {listed : Array Bool} (h : openCount listed = 0) (j : Nat) : exOf listed j := by
  unfold openCount at h
  unfold exOf
  rw [List.length_eq_zero_iff, List.filter_eq_nil_iff] at h
  rcases Nat.lt_or_ge j listed.size with hj | hj
  · have := h listed[j] (by simp)
    simpa [Array.getD, hj] using this
  · simp [Array.getD, Nat.not_lt.2 hj]

variable (hpairs : pairsOk E (T ops.size).a (pairsOf ops.size M ks) = true) (hG0 : GOk E F0 w0) (hcalls : ∀ f, FnOk E.P E.G f (E.call f))
include hpairs hG0 hcalls
theorem draw_any {Q : Exit → Act → World → Prop} (hQ : ∀ ac' w', Inv W ρ0 H0 F0 w0 (T ops.size) ac' w' → Q .normal ac' w') : ∀ (fuel m : Nat) (listed : Array Bool) (ac : Act) (w : World), RInv W ρ0 H0 F0 w0 tr E ops s.a U T m listed ac w → openCount listed ≤ fuel → wpAny E.P .any ops Q fuel listed ac w
  | 0, m, listed, ac, w, hR, hc => by
    have hall : ∀ j, exOf listed j := openCount_zero (by omega)
    refine ⟨?_, hQ _ _ (draw_end hD hT hR fun j _ => hall j)⟩
    rw [List.eq_nil_iff_forall_not_mem]
    intro i hi
    exact (mem_ready' hi).2.1 (hall i)
  | fuel + 1, m, listed, ac, w, hR, hc => by
    refine ⟨fun h => hQ _ _ (draw_end hD hT hR (ready_nil hD hR.size h)), fun i hi => ?_⟩
    obtain ⟨h1, h2, h3⟩ := mem_ready' hi
    have hdi : ∀ j ∈ direct (opAt ops i), exOf listed j := fun j hj => h3 hR.size j hj (by have := rows_lt hD.rows (opAt_eq h1) hj; omega)
    have hcount : openCount (listed.setIfInBounds i true) ≤ fuel := by
      have his : i < listed.size := by rw [hR.size]; exact h1
      have hf : listed.toList[i]? = some false := by
        have : listed.getD i true = false := by unfold exOf at h2; simpa using h2
        simp only [Array.getD, his, dite_true] at this
        rw [List.getElem?_eq_getElem (by simpa using his)]
        congr 1
      have := openCount_set listed.toList i hf
      unfold openCount at hc ⊢
      rw [Array.toList_setIfInBounds]
      omega
    rcases kd_cases (tr := tr) (P := E.P) (ops := ops) i with hk | hk | hk
    · exact step_alloc hD hT hin hlen hR h1 hk h2 hdi fun ac' w' hR' => draw_any hQ fuel m _ ac' w' hR' hcount
    · exact step_float hD hT hin hpairs hG0 hcalls hR h1 hk h2 hdi fun ac' w' hR' => draw_any hQ fuel m _ ac' w' hR' hcount
    · exact step_heavy hD hT hin hG0 hcalls hR h1 hk h2 hdi fun ac' w' hR' => draw_any hQ fuel (i + 1) _ ac' w' hR' hcount
end

theorem drawOk {E : Env} (hm : E.P.follows .mixedOrders = true) (hcalls : ∀ f, FnOk E.P E.G f (E.call f)) : DrawOk E := by
  intro W ρ0 H0 F0 w0 hG0 id ops dsts as l ps hc s x s' he ac w Q hI hQ
  obtain ⟨tr, M, ks, hD, rfl, rfl, rfl, rfl⟩ := cDraw_ok hc
  have he' : ((evalOps E ((List.range ops.size).filterMap (pick0 ks)) s).bind fun s => (evalOps E ((List.range ops.size).filterMap (pickN ks)) s).bind fun s =>
      Bool.rec (motive := fun _ => DT (XExit × St)) .fail (Bool.rec (motive := fun _ => DT (XExit × St)) .fail (.ret (.normal, s)) (slotsIn s.a ((List.range ops.size).filterMap (pick0 ks)))) (pairsOk E s.a (pairsOf ops.size M ks))).run = some (x, s') := he
  obtain ⟨s1, h1, h2⟩ := DT.run_bind_some he'
  obtain ⟨s2, h3, h4⟩ := DT.run_bind_some h2
  obtain ⟨U, u0, u1, u2⟩ := evalOps_traj _ _ _ _ h1
  obtain ⟨T, t0, t1, t2⟩ := evalOps_traj _ _ _ _ h3
  have hT : Traj E ops ks s U T := ⟨u0, u2, t0.trans u1.symm, t2⟩
  cases hp : pairsOk E s2.a (pairsOf ops.size M ks) with
  | false => rw [hp] at h4; cases h4
  | true =>
  rw [hp] at h4
  simp only at h4
  cases hs : slotsIn s2.a ((List.range ops.size).filterMap (pick0 ks)) with
  | false => rw [hs] at h4; cases h4
  | true =>
  rw [hs] at h4
  have h4' : some (XExit.normal, s2) = some (x, s') := h4
  injection h4' with h4'; injection h4' with e1 e2; subst e1 e2
  rw [← t1] at hp hs hQ
  have hin : ∀ j, j < ops.size → kdAt tr E.P ops j = 0 → ∀ d, dsAt ops j = some d → d < s.a.length := fun j hj hk d hd => by
    rw [← (a_len hD hT ops.size (Nat.le_refl _)).2]
    refine slotsIn_at hs (piAt tr E.P ops M j) ?_ d hd
    rw [List.mem_filterMap]
    exact ⟨j, List.mem_range.2 hj, (pick_0 hD hj hk).1⟩
  have hlen : H0.length ≤ s.H.length := by
    obtain ⟨_, ρ, F, hA, _⟩ := hI
    rcases Nat.lt_or_ge s.H.length H0.length with h | h
    · obtain ⟨b', hb', _⟩ := hA.heap s.H.length _ (List.getElem?_eq_getElem h)
      have := (List.getElem?_eq_some_iff.1 hb').1
      omega
    · exact h
  refine wp_region_any hm (draw_any hD hT hin hlen hp hG0 hcalls hQ ops.size 0 _ ac _ (draw_start hD hT hlen hI) ?_)
  unfold openCount
  simp
end Go.Ev

