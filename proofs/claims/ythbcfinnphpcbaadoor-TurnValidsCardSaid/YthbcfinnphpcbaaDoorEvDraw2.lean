/- A region in whatever order: its operations, one by one (own work). -/
import Derived.Test.YthbcfinnphpcbaaDoorEvDraw1
namespace Go.Ev
open Go

/-! ### guards -/
noncomputable def gOut (E : Env) (a : List AVal) (g : Option (Nat × Bool)) : Option Bool :=
  match g with
  | none => some true
  | some (d, want) => match evalA E a (.t d) with
    | .v (.bool b) => some (match want with | true => b | false => !b)
    | .v (.tuple _) => some false
    | _ => none
section
variable {E : Env} {a a' : List AVal} {s s' : St} {p : PI}
theorem gOut_slots {g : Option (Nat × Bool)} (h : Agr a a' (gSlots g)) : gOut E a g = gOut E a' g := by
  cases g with
  | none => rfl
  | some g =>
    obtain ⟨d, want⟩ := g
    simp only [gOut]
    rw [Agr.t (E := E) (h d (by simp [gSlots]))]
theorem evalPI_cases (he : (evalPI E s p).run = some s') : ∃ b, gOut E s.a p.guard = some b ∧ (b = true → (doOp E s p).run = some s') ∧ (b = false → s' = ⟨putA s.a p.dst (.v (.tuple #[])), s.H⟩) := by
  obtain ⟨dst, g, hide, op⟩ := p
  cases g with
  | none => exact ⟨true, rfl, fun _ => he, fun h => by cases h⟩
  | some g =>
    obtain ⟨d, want⟩ := g
    rw [evalPI_some] at he
    simp only [gOut]
    revert he
    generalize evalA E s.a (.t d) = u
    intro he
    split at he
    · rename_i b
      rcases DT.run_ite_some he with ⟨h1, h2⟩ | ⟨h1, h2⟩
      · exact ⟨true, congrArg some h1, fun _ => h2, fun h => by cases h⟩
      · exact ⟨false, congrArg some h1, fun h => by (cases h), fun _ => by simpa using h2.symm⟩
    · exact ⟨false, rfl, fun h => by (cases h), fun _ => by simpa using he.symm⟩
    · cases he
theorem evalPI_of {b : Bool} (hg : gOut E s.a p.guard = some b) (h1 : b = true → (doOp E s p).run = some s') (h2 : b = false → s' = ⟨putA s.a p.dst (.v (.tuple #[])), s.H⟩) : (evalPI E s p).run = some s' := by
  obtain ⟨dst, g, hide, op⟩ := p
  cases g with
  | none =>
    injection hg with hg
    exact h1 hg.symm
  | some g =>
    obtain ⟨d, want⟩ := g
    rw [evalPI_some]
    simp only [gOut] at hg
    revert hg
    generalize evalA E s.a (.t d) = u
    intro hg
    split at hg
    · rename_i b'
      injection hg with hg
      subst hg
      cases want <;> cases b' <;> first | exact h1 rfl | (rw [h2 rfl]; rfl)
    · injection hg with hg
      rw [h2 hg.symm]
      rfl
    · cases hg
theorem wanted_gOut {ρ : Rho} {H : List ABlk} {F : Fz} {w : World} {ops : Array Oper} {o : Oper} {g : Option (Nat × Bool)} {tmps : Array Value} {b : Bool} (hg : cGuard ops o = some g) (hA : ARel ρ H F w a tmps) (ho : gOut E a g = some b) :
    Region.wanted o (yielded ops tmps) = b := by
  unfold cGuard at hg
  unfold Region.wanted
  cases hgo : o.guard with
  | none =>
    simp only [hgo] at hg ⊢
    injection hg with hg
    subst hg
    injection ho
  | some jw =>
    obtain ⟨j, want⟩ := jw
    simp only [hgo] at hg ⊢
    cases hj : ops[j]? with
    | none => simp [hj] at hg
    | some oj =>
    simp only [hj] at hg
    cases hd : oj.dst with
    | none => simp [hd] at hg
    | some d =>
    simp only [hd] at hg
    injection hg with hg
    subst hg
    have hrel : ∀ v, evalA E a (.t d) = .v v → tmps[d]? = some v := fun v hv => by
      rw [evalA_t] at hv
      rcases Nat.lt_or_ge d a.length with hlt | hge
      · rw [List.getElem?_eq_getElem hlt] at hv
        have hlt' : d < tmps.size := hA.1 ▸ hlt
        have h1 := hA.2 d _ _ (List.getElem?_eq_getElem hlt) (Array.getElem?_eq_getElem hlt')
        simp only [Option.getD_some] at hv
        rw [hv] at h1
        rw [Array.getElem?_eq_getElem hlt', inv_v h1]
      · rw [List.getElem?_eq_none hge] at hv; cases hv
    simp only [gOut] at ho
    revert ho hrel
    generalize evalA E a (.t d) = u
    intro ho hrel
    split at ho
    · rename_i b'
      rw [yielded_bool hj hd (hrel _ rfl)]
      injection ho with ho
      subst ho
      cases want <;> cases b' <;> rfl
    · rename_i vs
      rw [yielded_tuple hj hd (hrel _ rfl)]
      injection ho with ho
    · cases ho

theorem doOp_run (he : (doOp E s p).run = some s') : ∃ x H', (evalOp E s.a (deaden s.H (hidden s.a p.hide)) p.op).run = some (x, H') ∧ s' = ⟨putA s.a p.dst x, revive s.H H' (hidden s.a p.hide)⟩ := by
  unfold doOp at he
  obtain ⟨⟨x, H1⟩, h1, h2⟩ := DT.run_bind_some he
  have h2' : some (⟨putA s.a p.dst x, H1⟩ : St) = some s' := h2
  injection h2' with h2'
  subst h2'
  cases hh : p.hide with
  | nil =>
    rw [hh] at h1
    exact ⟨x, H1, h1, rfl⟩
  | cons d l =>
    rw [hh] at h1
    have h1' : ((evalOp E s.a (deaden s.H (hidden s.a (d :: l))) p.op).bind fun r => .ret (r.1, revive s.H r.2 (hidden s.a (d :: l)))).run = some (x, H1) := h1
    obtain ⟨⟨y, H'⟩, h3, h4⟩ := DT.run_bind_some h1'
    have h4' : some (y, revive s.H H' (hidden s.a (d :: l))) = some (x, H1) := h4
    injection h4' with h4'; injection h4' with e1 e2; subst e1 e2
    exact ⟨y, H', h3, rfl⟩
end

/-! ### the operations of a region -/
def opAt (ops : Array Oper) (j : Nat) : Oper := ops.getD j default
theorem opAt_eq {ops : Array Oper} {j : Nat} (h : j < ops.size) : ops[j]? = some (opAt ops j) := by simp [opAt, Array.getD, h]
def gdAt (ops : Array Oper) (j : Nat) : Option (Nat × Bool) := (cGuard ops (opAt ops j)).getD none
def kdAt (tr : Bool) (P : Program) (ops : Array Oper) (j : Nat) : Nat := kindO tr P (opAt ops j)
def poAt (tr : Bool) (P : Program) (ops : Array Oper) (j : Nat) : PO := toTree tr (cOp P (opAt ops j))
def dsAt (ops : Array Oper) (j : Nat) : Option Nat := (opAt ops j).dst
def piAt (tr : Bool) (P : Program) (ops : Array Oper) (M : List Nat) (j : Nat) : PI := ⟨dsAt ops j, gdAt ops j, if Nat.beq (kdAt tr P ops j) 2 then hideOf ops M j else [], poAt tr P ops j⟩

theorem cPIs_at {tr : Bool} {P : Program} {ops : Array Oper} {M : List Nat} : ∀ {r : List Oper} {k : Nat} {ks : List (Nat × PI)}, cPIs tr P ops M k r = some ks → ∀ (i : Nat) o, r[i]? = some o →
    ∃ g, cGuard ops o = some g ∧ ks[i]? = some (kindO tr P o, ⟨o.dst, g, if Nat.beq (kindO tr P o) 2 then hideOf ops M (k + i) else [], toTree tr (cOp P o)⟩)
  | [], k, ks, h, i, o, ho => by simp at ho
  | o' :: r, k, ks, h, i, o, ho => by
    simp only [cPIs] at h
    cases h1 : cPI tr P ops M k o' with
    | none => simp [h1] at h
    | some x =>
    cases h2 : cPIs tr P ops M (k + 1) r with
    | none => simp [h1, h2] at h
    | some l =>
    simp only [h1, h2] at h
    injection h with h
    subst h
    cases i with
    | zero =>
      simp at ho
      subst ho
      unfold cPI at h1
      cases hg : cGuard ops o' with
      | none => simp [hg] at h1
      | some g =>
        simp only [hg] at h1
        injection h1 with h1
        exact ⟨g, rfl, by simp [← h1]⟩
    | succ i =>
      obtain ⟨g, h3, h4⟩ := cPIs_at h2 i o (by simpa using ho)
      exact ⟨g, h3, by rw [show k + (i + 1) = k + 1 + i by omega]; simpa using h4⟩

/-- what was checked of a region -/
structure DC (tr : Bool) (P : Program) (ops : Array Oper) (M : List Nat) (ks : List (Nat × PI)) : Prop where
  rows : rowsOk ops M = true
  guard : ∀ j, j < ops.size → cGuard ops (opAt ops j) = some (gdAt ops j)
  at' : ∀ j, j < ops.size → ks[j]? = some (kdAt tr P ops j, piAt tr P ops M j)
  one : ∀ j, j < ops.size → drawOne ops M ks j = true

section
variable {tr : Bool} {P : Program} {ops : Array Oper} {M : List Nat} {ks : List (Nat × PI)}
theorem cDrawT_ok {dsts : List Nat} {as l : List PI} {ps : List (PO × PO)} (h : cDrawT tr P ops = .draw dsts as l ps) :
    ∃ M ks, DC tr P ops M ks ∧ dsts = ops.toList.filterMap (·.dst) ∧ as = (List.range ops.size).filterMap (pick0 ks) ∧ l = (List.range ops.size).filterMap (pickN ks) ∧ ps = pairsOf ops.size M ks := by
  unfold cDrawT at h
  simp only at h
  cases hk : cPIs tr P ops (Region.before ops).toList 0 ops.toList with
  | none => simp [hk] at h
  | some ks =>
  simp only [hk, cDrawK] at h
  split at h
  case h_2 => cases h
  rename_i hc
  injection h with e1 e2 e3 e4
  rw [Bool.and_eq_true] at hc
  refine ⟨_, ks, ⟨hc.1, fun j hj => ?_, fun j hj => ?_, fun j hj => List.all_eq_true.1 hc.2 j (List.mem_range.2 hj)⟩, e1.symm, e2.symm, e3.symm, e4.symm⟩
  all_goals
    obtain ⟨g, h1, h2⟩ := cPIs_at hk j (opAt ops j) (by simpa using opAt_eq hj)
    have hg : gdAt ops j = g := by simp [gdAt, h1]
  · rw [hg]; exact h1
  · rw [h2]
    simp only [piAt, hg, Nat.zero_add, kdAt, poAt, dsAt]
    rfl

theorem cDraw_ok {dsts : List Nat} {as l : List PI} {ps : List (PO × PO)} (h : cDraw P ops = .draw dsts as l ps) :
    ∃ tr M ks, DC tr P ops M ks ∧ dsts = ops.toList.filterMap (·.dst) ∧ as = (List.range ops.size).filterMap (pick0 ks) ∧ l = (List.range ops.size).filterMap (pickN ks) ∧ ps = pairsOf ops.size M ks := by
  unfold cDraw at h
  split at h
  · rename_i a b c d h1
    injection h with e1 e2 e3 e4
    subst e1 e2 e3 e4
    exact ⟨false, cDrawT_ok h1⟩
  · exact ⟨true, cDrawT_ok h⟩

theorem kd_cases (j : Nat) : kdAt tr P ops j = 0 ∨ kdAt tr P ops j = 1 ∨ kdAt tr P ops j = 2 := by
  unfold kdAt kindO
  split
  · exact .inl rfl
  · split
    · exact .inr (.inl rfl)
    · exact .inr (.inr rfl)
theorem kd_float {j : Nat} (h : kdAt tr P ops j = 1) : isFloat (poAt tr P ops j) = true := by
  unfold kdAt kindO at h
  split at h
  · cases h
  · split at h
    · assumption
    · cases h
theorem float_or_heavy (o : PO) : isFloat o = true ∨ isHeavy o = true := by cases o <;> first | exact .inl rfl | exact .inr rfl
theorem kd_heavy {j : Nat} (h : kdAt tr P ops j = 2) : isHeavy (poAt tr P ops j) = true := by
  unfold kdAt kindO at h
  split at h
  · cases h
  · split at h
    · cases h
    · rename_i h2
      exact (float_or_heavy _).resolve_left h2
theorem kd_alloc {j : Nat} (h : kdAt tr P ops j = 0) : isAlloc (opAt ops j) = true := by
  unfold kdAt kindO at h
  split at h
  · assumption
  · split at h <;> cases h

variable (hD : DC tr P ops M ks)
include hD
theorem DC.slots {i j d : Nat} (hi : i < ops.size) (hj : j < ops.size) (hd : dsAt ops i = some d) :
    (d ∈ gSlots (gdAt ops j) ++ poSlots (poAt tr P ops j) → isBefore M i j = true ∨ (isLoose (poAt tr P ops j) = true ∧ isAlloc (opAt ops i) = false ∧ (isBefore M j i = true ∨ i = j))) ∧ (i = j ∨ dsAt ops j ≠ some d) := by
  have h := hD.one j hj
  unfold drawOne at h
  rw [hD.at' j hj] at h
  simp only [Bool.and_eq_true] at h
  have h1 := List.all_eq_true.1 h.1.1.1 i (List.mem_range.2 hi)
  have hd' : (opAt ops i).dst = some d := hd
  simp only [opAt_eq hi, hd', Bool.and_eq_true, Bool.or_eq_true, Bool.not_eq_true'] at h1
  refine ⟨fun hm => ?_, ?_⟩
  · rcases h1.1 with (h2 | h2) | h2
    · have : (gSlots (gdAt ops j) ++ poSlots (poAt tr P ops j)).contains d = false := h2
      rw [List.contains_iff_mem.2 hm] at this
      cases this
    · exact .inl h2
    · exact .inr ⟨h2.1.1, h2.1.2, h2.2.imp id Nat.eq_of_beq_eq_true⟩
  · rcases h1.2 with h2 | h2
    · exact .inl (Nat.eq_of_beq_eq_true h2)
    · refine .inr fun e => ?_
      have h3 : (dsAt ops j != some d) = true := h2
      rw [e] at h3
      simp at h3
theorem DC.bare {j : Nat} (hj : j < ops.size) : usesBare (poAt tr P ops j) = true := by
  have h := hD.one j hj
  unfold drawOne at h
  rw [hD.at' j hj] at h
  simp only [Bool.and_eq_true] at h
  exact h.1.1.2
theorem DC.allocDst {j : Nat} (hj : j < ops.size) (h0 : kdAt tr P ops j = 0) : ∃ d, dsAt ops j = some d := by
  have h := hD.one j hj
  unfold drawOne at h
  rw [hD.at' j hj] at h
  simp only [Bool.and_eq_true, Bool.or_eq_true, Bool.not_eq_true'] at h
  rcases h.1.2 with h2 | h2
  · rw [h0] at h2; cases h2
  · exact Option.isSome_iff_exists.1 h2
theorem DC.chain {i j : Nat} (hi : i < j) (hj : j < ops.size) (hki : kdAt tr P ops i = 2) (hkj : kdAt tr P ops j = 2) : isBefore M i j = true ∧ ∀ a, isBefore M a i = true → isBefore M a j = true := by
  have h := hD.one j hj
  unfold drawOne at h
  rw [hD.at' j hj] at h
  simp only [Bool.and_eq_true, Bool.or_eq_true, Bool.not_eq_true'] at h
  rcases h.2 with h2 | h2
  · rw [hkj] at h2; cases h2
  · have h3 := List.all_eq_true.1 h2 i (List.mem_range.2 hi)
    rw [hD.at' i (by omega), hki] at h3
    simp only [Bool.and_eq_true] at h3
    refine ⟨h3.1, fun a ha => ?_⟩
    have h4 := Nat.eq_of_beq_eq_true h3.2
    unfold isBefore at ha ⊢
    rw [← h4, Nat.testBit_and, Bool.and_eq_true] at ha
    exact ha.2
theorem DC.pair {i j : Nat} (hi : i < ops.size) (hj : j < ops.size) (hkj : kdAt tr P ops j = 1) (hki : kdAt tr P ops i = 2) (h1 : isBefore M i j = false) (h2 : isBefore M j i = false) :
    (poAt tr P ops j, poAt tr P ops i) ∈ pairsOf ops.size M ks := by
  unfold pairsOf
  rw [List.mem_flatMap]
  refine ⟨j, List.mem_range.2 hj, ?_⟩
  rw [hD.at' j hj, hkj]
  simp only
  rw [List.mem_filterMap]
  refine ⟨i, List.mem_range.2 hi, ?_⟩
  rw [hD.at' i hi, hki]
  simp [h1, h2, piAt]
end
end Go.Ev
