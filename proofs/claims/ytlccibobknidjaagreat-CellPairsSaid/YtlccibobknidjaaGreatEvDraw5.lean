/- Own work: a part of the proof. -/
import Derived.Test.YtlccibobknidjaaGreatEvTouch
set_option linter.unusedVariables false
set_option linter.unusedSimpArgs false
set_option linter.unnecessarySimpa false
set_option linter.unusedSectionVars false
namespace Go.Ev
open Go
theorem yb2 {E : Env} : ∀ (l r : List PI) (s : St), I8 E (l ++ r) s = (I8 E l s).bind (I8 E r)
 | [], r, s => rfl
 | p :: l, r, s => by
  have e1 : I8 E (p :: l ++ r) s = (Da9 E s p).bind (I8 E (l ++ r)) := rfl
  have e2 : I8 E (p :: l) s = (Da9 E s p).bind (I8 E l) := rfl
  rw [e1, e2]
  have : I8 E (l ++ r) = fun s => (I8 E l s).bind (I8 E r) := funext fun s => yb2 l r s
  rw [this]
  generalize Da9 E s p = d
  induction d with
  | ret x => rfl
  | fail => rfl
  | ite b t e iht ihe => simp only [DT.bind_ite, iht, ihe]
def pb6 (E : Env) (f : Nat → Option PI) (T : Nat → St) (j : Nat) : Prop := match f j with
 | some p => (Da9 E (T j) p).run = some (T (j + 1))
 | none => T (j + 1) = T j
theorem pb7 {E : Env} (f : Nat → Option PI) : ∀ (n : Nat) (s s' : St), (I8 E ((List.range n).filterMap f) s).run = some s' → ∃ T : Nat → St, T 0 = s ∧ T n = s' ∧ ∀ j, j < n → pb6 E f T j
 | 0, s, s', h => ⟨fun _ => s, rfl, by simpa [I8] using h, fun j hj => by omega⟩
 | n + 1, s, s', h => by
  rw [List.range_succ, List.filterMap_append, yb2] at h
  obtain ⟨s1, h1, h2⟩ := DT.run_bind_some h
  obtain ⟨T, t0, t1, t2⟩ := pb7 f n s s1 h1
  refine ⟨fun j => if j ≤ n then T j else s', by simp [t0], if_neg (by omega), fun j hj => ?_⟩
  unfold pb6
  by_cases hjn : j < n
  ·have := t2 j hjn
   unfold pb6 at this
   simp only [show j ≤ n from by omega, show j + 1 ≤ n from by omega, if_true]
   exact this
  ·have : j = n := by omega
   subst this
   simp only [Nat.le_refl, if_true, show ¬ (j + 1 ≤ j) from by omega, if_false, t1]
   cases hf : f j with
   | none =>
    simp only [List.filterMap_cons, hf, List.filterMap_nil] at h2
    have h2' : some s1 = some s' := h2
    injection h2' with h2'
    exact h2'.symm
   | some p =>
    simp only [List.filterMap_cons, hf, List.filterMap_nil] at h2
    have h2' : ((Da9 E s1 p).bind (I8 E [])).run = some s' := h2
    obtain ⟨s2, h3, h4⟩ := DT.run_bind_some h2'
    have h4' : some s2 = some s' := h4
    injection h4' with h4'
    subst h4'
    exact h3
open Classical in
noncomputable def Z2 (H : List b8) (D : Nat → Prop) : List b8 := H.mapIdx fun i b => if D i then { b with dead := true } else b
open Classical in
noncomputable def Ja3 (a b : List b7) (D : Nat → Prop) : List b7 := a.mapIdx fun i x => if D i then (b[i]?).getD .unk else x
section
variable {H H' H0 : List b8} {D D' : Nat → Prop} {a c : List b7}
theorem Xa7 : (Z2 H D).length = H.length := by simp [Z2]
theorem K4 {i : Nat} (h : ¬ D i) : (Z2 H D)[i]? = H[i]? := by
 simp only [Z2, List.getElem?_mapIdx, if_neg h]
 cases H[i]? <;> rfl
theorem ha4 {i : Nat} (h : D i) : (Z2 H D)[i]? = (H[i]?).map fun b => { b with dead := true } := by
 simp only [Z2, List.getElem?_mapIdx, if_pos h]
theorem nd3 {i : Nat} {b : b8} (h : (Z2 H D)[i]? = some b) (hd : b.dead = false) : ¬ D i ∧ H[i]? = some b := by
 by_cases hD : D i
 ·rw [ha4 hD] at h
  simp only [Option.map_eq_some_iff] at h
  obtain ⟨c, _, rfl⟩ := h
  cases hd
 ·exact ⟨hD, by rwa [K4 hD] at h⟩
theorem Ka0 : (Ja3 a c D).length = a.length := by simp [Ja3]
theorem Ka1 {i : Nat} (h : ¬ D i) : (Ja3 a c D)[i]? = a[i]? := by
 simp only [Ja3, List.getElem?_mapIdx, if_neg h]
 cases a[i]? <;> rfl
theorem Rb2 {i : Nat} (h : D i) (hi : i < a.length) : (Ja3 a c D)[i]? = some ((c[i]?).getD .unk) := by
 simp only [Ja3, List.getElem?_mapIdx, if_pos h, List.getElem?_eq_getElem hi, Option.map_some]
theorem nd4 (h : ∀ i, ¬ D i) : Ja3 a c D = a := List.ext_getElem? fun i => Ka1 (h i)
theorem nd5 (h : ∀ i, ¬ D i) : Z2 H D = H := List.ext_getElem? fun i => K4 (h i)
theorem ad7 (H : List b8) (d : Nat) (l : List Nat) : wb4 H (d :: l) = modAt (wb4 H l) d fun b => { b with dead := true } := rfl
theorem Gd8 (H : List b8) (f : b8 → b8) (d i : Nat) : (modAt H d f)[i]? = if d = i then (H[i]?).map f else H[i]? := by
 unfold modAt
 rw [y6]
 by_cases e : d = i
 ·subst e
  rw [if_pos rfl]
  cases h : H[d]? with
  | none => simp [h]
  | some b => simp only [z6]; rw [List.getElem?_set_self (List.getElem?_eq_some_iff.1 h).1]; rfl
 ·rw [if_neg e]
  cases h : H[d]? with
  | none => rfl
  | some b => simp only [z6]; rw [List.getElem?_set_ne e]
theorem Ad6 (l : List Nat) : wb4 H l = Z2 H (· ∈ l) := by
 refine List.ext_getElem? fun i => ?_
 induction l with
 | nil => rw [K4 (by simp)]; rfl
 | cons d l ih =>
  rw [ad7, Gd8, ih]
  by_cases e : d = i
  ·subst e
   rw [if_pos rfl, ha4 (D := (· ∈ d :: l)) (by simp)]
   by_cases hd : d ∈ l
   ·rw [ha4 hd]; cases H[d]? <;> rfl
   ·rw [K4 hd]
  ·rw [if_neg e]
   by_cases hd : i ∈ l
   ·rw [ha4 hd, ha4 (D := (· ∈ d :: l)) (by simp [hd])]
   ·rw [K4 hd, K4 (D := (· ∈ d :: l)) (by simp [hd]; exact fun h => e h.symm)]
theorem yb3 (H0 H : List b8) (d : Nat) (l : List Nat) : Ra5 H0 H (d :: l) = match nth H0 d with
  | some b => setAt (Ra5 H0 H l) d b
  | none => Ra5 H0 H l := rfl
theorem nd6 (l : List Nat) : (Ra5 H0 H l).length = H.length := by
 induction l with
 | nil => rfl
 | cons d l ih =>
  rw [yb3]
  split
  ·rw [z6]; simp [ih]
  ·exact ih
theorem rc0 {l : List Nat} {i : Nat} (h : i ∉ l) : (Ra5 H0 H l)[i]? = H[i]? := by
 induction l with
 | nil => rfl
 | cons d l ih =>
  simp only [List.mem_cons, not_or] at h
  rw [yb3]
  split
  ·rw [z6, List.getElem?_set_ne (fun e => h.1 e.symm)]; exact ih h.2
  ·exact ih h.2
theorem Zb6 {l : List Nat} {i : Nat} (h : i ∈ l) (h0 : i < H0.length) (h1 : i < H.length) : (Ra5 H0 H l)[i]? = H0[i]? := by
 induction l with
 | nil => cases h
 | cons d l ih =>
  rw [yb3, y6]
  by_cases e : d = i
  ·subst e
   rw [List.getElem?_eq_getElem h0]
   simp only [z6]
   rw [List.getElem?_set_self (by rw [nd6]; exact h1)]
  ·have hm : i ∈ l := (List.mem_cons.1 h).resolve_left fun h => e h.symm
   split
   ·rw [z6, List.getElem?_set_ne e]; exact ih hm
   ·exact ih hm
end
section
variable {ops : Array Oper} {M : List Nat}
theorem rc1 {o : Oper} {i : Nat} : i ∈ qa9 o ↔ ∃ e ∈ o.after, Region.binds .any e = true ∧ e.on = i := by
 simp [qa9, and_assoc]
theorem Rb3 (h : Oc4 ops M = true) {j : Nat} {o : Oper} (ho : ops[j]? = some o) {i : Nat} (hi : i ∈ qa9 o) : i < j := by
 have hj := (Array.getElem?_eq_some_iff.1 ho).1
 have := List.all_eq_true.1 h j (List.mem_range.2 hj)
 simp only [ho, Bool.and_eq_true] at this
 have h2 := List.all_eq_true.1 this.1 i hi
 simpa [Nat.blt_eq] using h2
theorem fc7 (h : Oc4 ops M = true) (ex : Nat → Prop) (hex : ∀ (j : Nat) o, ops[j]? = some o → ex j → ∀ i ∈ qa9 o, ex i) :
  ∀ (j : Nat) (o : Oper), ops[j]? = some o → (∀ i ∈ qa9 o, ex i) → ∀ i, i < ops.size → q8 M i j = true → ex i := by
 intro j
 induction j using Nat.strongRecOn with
 | _ j ih =>
  intro o ho hd i hi hb
  have hj := (Array.getElem?_eq_some_iff.1 ho).1
  have := List.all_eq_true.1 h j (List.mem_range.2 hj)
  simp only [ho, Bool.and_eq_true] at this
  have h2 := List.all_eq_true.1 this.2 i (List.mem_range.2 hi)
  unfold q8 at hb
  rw [hb] at h2
  simp only [Bool.not_true, Bool.false_or, List.any_eq_true, Bool.or_eq_true] at h2
  obtain ⟨m, hm, h3⟩ := h2
  rcases h3 with h3 | h3
  ·have := Nat.eq_of_beq_eq_true h3
   subst this
   exact hd m hm
  ·have hlt := Rb3 h ho hm
   have hms : m < ops.size := by omega
   have hom : ops[m]? = some ops[m] := Array.getElem?_eq_getElem hms
   exact ih m hlt _ hom (hex m _ hom (hd m hm)) i hi h3
end
end Go.Ev
namespace Go.Ev
open Go
noncomputable def Zb7 (E : Env) (a : List b7) (g : Option (Nat × Bool)) : Option Bool :=
 match g with
 | none => some true
 | some (d, want) => match c7 E a (.t d) with
  | .v (.bool b) => some (match want with | true => b | false => !b)
  | .v (.tuple _) => some false
  | _ => none
section
variable {E : Env} {a a' : List b7} {s s' : St} {p : PI}
theorem Lb9 {g : Option (Nat × Bool)} (h : Agr a a' (Lb2 g)) : Zb7 E a g = Zb7 E a' g := by
 cases g with
 | none => rfl
 | some g =>
  obtain ⟨d, want⟩ := g
  simp only [Zb7]
  rw [Agr.t (E := E) (h d (by simp [Lb2]))]
theorem pb8 (he : (Da9 E s p).run = some s') : ∃ b, Zb7 E s.a p.guard = some b ∧ (b = true → (ic7 E s p).run = some s') ∧ (b = false → s' = ⟨putA s.a p.dst (.v (.tuple #[])), s.H⟩) := by
 obtain ⟨dst, g, hide, op⟩ := p
 cases g with
 | none => exact ⟨true, rfl, fun _ => he, fun h => by cases h⟩
 | some g =>
  obtain ⟨d, want⟩ := g
  rw [fc4] at he
  simp only [Zb7]
  revert he
  generalize c7 E s.a (.t d) = u
  intro he
  split at he
  ·rename_i b
   rcases DT.run_ite_some he with ⟨h1, h2⟩ | ⟨h1, h2⟩
   ·exact ⟨true, congrArg some h1, fun _ => h2, fun h => by cases h⟩
   ·exact ⟨false, congrArg some h1, fun h => by (cases h), fun _ => by simpa using h2.symm⟩
  ·exact ⟨false, rfl, fun h => by (cases h), fun _ => by simpa using he.symm⟩
  ·cases he
theorem ad8 {ρ : Rho} {H : List b8} {F : Fz} {w : World} {ops : Array Oper} {o : Oper} {g : Option (Nat × Bool)} {tmps : Array Value} {b : Bool} (hg : Z8 ops o = some g) (hA : la1 ρ H F w a tmps) (ho : Zb7 E a g = some b) :
  Region.wanted o (yielded ops tmps) = b := by
 unfold Z8 at hg
 unfold Region.wanted
 cases hgo : o.guard with
 | none =>
  simp only [hgo] at hg ⊢
  injection hg with hg
  subst hg
  injection ho
 | some jw =>
  obtain ⟨j, want⟩ := jw
  simp only [hgo] at hg ⊢
  cases hj : ops[j]? with
  | none => simp [hj] at hg
  | some oj =>
  simp only [hj] at hg
  cases hd : oj.dst with
  | none => simp [hd] at hg
  | some d =>
  simp only [hd] at hg
  injection hg with hg
  subst hg
  have hrel : ∀ v, c7 E a (.t d) = .v v → tmps[d]? = some v := fun v hv => by
   rw [Va2] at hv
   rcases Nat.lt_or_ge d a.length with hlt | hge
   ·rw [List.getElem?_eq_getElem hlt] at hv
    have hlt' : d < tmps.size := hA.1 ▸ hlt
    have h1 := hA.2 d _ _ (List.getElem?_eq_getElem hlt) (Array.getElem?_eq_getElem hlt')
    simp only [Option.getD_some] at hv
    rw [hv] at h1
    rw [Array.getElem?_eq_getElem hlt', Z1 h1]
   ·rw [List.getElem?_eq_none hge] at hv; cases hv
  simp only [Zb7] at ho
  revert ho hrel
  generalize c7 E a (.t d) = u
  intro ho hrel
  split at ho
  ·rename_i b'
   rw [pb4 hj hd (hrel _ rfl)]
   injection ho with ho
   subst ho
   cases want <;> cases b' <;> rfl
  ·rename_i vs
   rw [ib7 hj hd (hrel _ rfl)]
   injection ho with ho
  ·cases ho
theorem rc2 (he : (ic7 E s p).run = some s') : ∃ x H', (evalOp E s.a (wb4 s.H (Ja7 s.a p.hide)) p.op).run = some (x, H') ∧ s' = ⟨putA s.a p.dst x, Ra5 s.H H' (Ja7 s.a p.hide)⟩ := by
 unfold ic7 at he
 obtain ⟨⟨x, H1⟩, h1, h2⟩ := DT.run_bind_some he
 have h2' : some (⟨putA s.a p.dst x, H1⟩ : St) = some s' := h2
 injection h2' with h2'
 subst h2'
 cases hh : p.hide with
 | nil =>
  rw [hh] at h1
  exact ⟨x, H1, h1, rfl⟩
 | cons d l =>
  rw [hh] at h1
  have h1' : ((evalOp E s.a (wb4 s.H (Ja7 s.a (d :: l))) p.op).bind fun r => .ret (r.1, Ra5 s.H r.2 (Ja7 s.a (d :: l)))).run = some (x, H1) := h1
  obtain ⟨⟨y, H'⟩, h3, h4⟩ := DT.run_bind_some h1'
  have h4' : some (y, Ra5 s.H H' (Ja7 s.a (d :: l))) = some (x, H1) := h4
  injection h4' with h4'; injection h4' with e1 e2; subst e1 e2
  exact ⟨y, H', h3, rfl⟩
end
def Ba8 (ops : Array Oper) (j : Nat) : Oper := ops.getD j default
theorem qa2 {ops : Array Oper} {j : Nat} (h : j < ops.size) : ops[j]? = some (Ba8 ops j) := by simp [Ba8, Array.getD, h]
def Hb3 (ops : Array Oper) (j : Nat) : Option (Nat × Bool) := (Z8 ops (Ba8 ops j)).getD none
def G9 (tr : Nat) (P : Program) (ops : Array Oper) (j : Nat) : Nat := Ib5 tr P ops (Ba8 ops j)
def pa5 (tr : Nat) (P : Program) (ops : Array Oper) (j : Nat) : PO := xb0 tr (ob9 P ops (Ba8 ops j))
def pa6 (ops : Array Oper) (j : Nat) : Option Nat := (Ba8 ops j).dst
def Hb4 (tr : Nat) (P : Program) (ops : Array Oper) (M : List Nat) (j : Nat) : PI := ⟨pa6 ops j, Hb3 ops j, if Nat.beq (G9 tr P ops j) 2 then Yb8 ops M j else [], pa5 tr P ops j⟩
theorem td7 {tr : Nat} {P : Program} {ops : Array Oper} {M : List Nat} : ∀ {r : List Oper} {k : Nat} {ks : List (Nat × PI)}, zd0 tr P ops M k r = some ks → ∀ (i : Nat) o, r[i]? = some o →
  ∃ g, Z8 ops o = some g ∧ ks[i]? = some (Ib5 tr P ops o, ⟨o.dst, g, if Nat.beq (Ib5 tr P ops o) 2 then Yb8 ops M (k + i) else [], xb0 tr (ob9 P ops o)⟩)
 | [], k, ks, h, i, o, ho => by simp at ho
 | o' :: r, k, ks, h, i, o, ho => by
  simp only [zd0] at h
  cases h1 : cPI tr P ops M k o' with
  | none => simp [h1] at h
  | some x =>
  cases h2 : zd0 tr P ops M (k + 1) r with
  | none => simp [h1, h2] at h
  | some l =>
  simp only [h1, h2] at h
  injection h with h
  subst h
  cases i with
  | zero =>
   simp at ho
   subst ho
   unfold cPI at h1
   cases hg : Z8 ops o' with
   | none => simp [hg] at h1
   | some g =>
    simp only [hg] at h1
    injection h1 with h1
    exact ⟨g, rfl, by simp [← h1]⟩
  | succ i =>
   obtain ⟨g, h3, h4⟩ := td7 h2 i o (by simpa using ho)
   exact ⟨g, h3, by rw [show k + (i + 1) = k + 1 + i by omega]; simpa using h4⟩
structure DC (tr : Nat) (P : Program) (ops : Array Oper) (M : List Nat) (ks : List (Nat × PI)) : Prop where
 rows : Oc4 ops M = true
 guard : ∀ j, j < ops.size → Z8 ops (Ba8 ops j) = some (Hb3 ops j)
 at' : ∀ j, j < ops.size → ks[j]? = some (G9 tr P ops j, Hb4 tr P ops M j)
 one : ∀ j, j < ops.size → Eb2 ops M ks j = true
section
variable {tr : Nat} {P : Program} {ops : Array Oper} {M : List Nat} {ks : List (Nat × PI)}
theorem Zb8 {dsts : List Nat} {as l : List PI} {ps : List (PO × PO)} (h : xb2 tr P ops = .draw dsts as l ps) :
  ∃ M ks, DC tr P ops M ks ∧ dsts = ops.toList.filterMap (·.dst) ∧ as = (List.range ops.size).filterMap (xb1 ks) ∧ l = (List.range ops.size).filterMap (Pb6 ks) ∧ ps = Va1 ops.size M ks := by
 unfold xb2 at h
 simp only at h
 cases hk : zd0 tr P ops (Region.before ops).toList 0 ops.toList with
 | none => simp [hk] at h
 | some ks =>
 simp only [hk, ld7] at h
 split at h
 case h_2 => cases h
 rename_i hc
 injection h with e1 e2 e3 e4
 rw [Bool.and_eq_true] at hc
 refine ⟨_, ks, ⟨hc.1, fun j hj => ?_, fun j hj => ?_, fun j hj => List.all_eq_true.1 hc.2 j (List.mem_range.2 hj)⟩, e1.symm, e2.symm, e3.symm, e4.symm⟩
 all_goals
  obtain ⟨g, h1, h2⟩ := td7 hk j (Ba8 ops j) (by simpa using qa2 hj)
  have hg : Hb3 ops j = g := by simp [Hb3, h1]
 ·rw [hg]; exact h1
 ·rw [h2]
  simp only [Hb4, hg, Nat.zero_add, G9, pa5, pa6]
  rfl
theorem Gd9 {dsts : List Nat} {as l : List PI} {ps : List (PO × PO)} (h : Pb7 P ops = .draw dsts as l ps) :
  ∃ tr M ks, DC tr P ops M ks ∧ dsts = ops.toList.filterMap (·.dst) ∧ as = (List.range ops.size).filterMap (xb1 ks) ∧ l = (List.range ops.size).filterMap (Pb6 ks) ∧ ps = Va1 ops.size M ks := by
 unfold Pb7 at h
 split at h
 ·rename_i a b c d h1
  injection h with e1 e2 e3 e4
  subst e1 e2 e3 e4
  exact ⟨0, Zb8 h1⟩
 ·split at h
  ·rename_i a b c d h1
   injection h with e1 e2 e3 e4
   subst e1 e2 e3 e4
   exact ⟨1, Zb8 h1⟩
  ·exact ⟨2, Zb8 h⟩
theorem yb4 (j : Nat) : G9 tr P ops j = 0 ∨ G9 tr P ops j = 1 ∨ G9 tr P ops j = 2 := by
 unfold G9 Ib5
 split
 ·exact .inl rfl
 ·split
  ·exact .inr (.inl rfl)
  ·exact .inr (.inr rfl)
theorem ad9 {j : Nat} (h : G9 tr P ops j = 1) : nc2 (pa5 tr P ops j) = true := by
 unfold G9 Ib5 at h
 split at h
 ·cases h
 ·split at h
  ·assumption
  ·cases h
theorem rc3 (o : PO) : nc2 o = true ∨ nc7 o = true := by cases o <;> first | exact .inl rfl | exact .inr rfl
theorem Rb4 {j : Nat} (h : G9 tr P ops j = 2) : nc7 (pa5 tr P ops j) = true := by
 unfold G9 Ib5 at h
 split at h
 ·cases h
 ·split at h
  ·cases h
  ·rename_i h2
   exact (rc3 _).resolve_left h2
theorem rc4 {j : Nat} (h : G9 tr P ops j = 0) : gb4 (Ba8 ops j) = true := by
 unfold G9 Ib5 at h
 split at h
 ·assumption
 ·split at h <;> cases h
variable (hD : DC tr P ops M ks)
include hD
theorem DC.slots {i j d : Nat} (hi : i < ops.size) (hj : j < ops.size) (hd : pa6 ops i = some d) :
  (d ∈ Lb2 (Hb3 ops j) ++ gb5 (pa5 tr P ops j) → q8 M i j = true ∨ (pb0 (pa5 tr P ops j) = true ∧ gb4 (Ba8 ops i) = false ∧ (q8 M j i = true ∨ i = j))) ∧ (i = j ∨ pa6 ops j ≠ some d) := by
 have h := hD.one j hj
 unfold Eb2 at h
 rw [hD.at' j hj] at h
 simp only [Bool.and_eq_true] at h
 have h1 := List.all_eq_true.1 h.1.1.1 i (List.mem_range.2 hi)
 have hd' : (Ba8 ops i).dst = some d := hd
 simp only [qa2 hi, hd', Bool.and_eq_true, Bool.or_eq_true, Bool.not_eq_true'] at h1
 refine ⟨fun hm => ?_, ?_⟩
 ·rcases h1.1 with (h2 | h2) | h2
  ·have : (Lb2 (Hb3 ops j) ++ gb5 (pa5 tr P ops j)).contains d = false := h2
   rw [List.contains_iff_mem.2 hm] at this
   cases this
  ·exact .inl h2
  ·exact .inr ⟨h2.1.1, h2.1.2, h2.2.imp id Nat.eq_of_beq_eq_true⟩
 ·rcases h1.2 with h2 | h2
  ·exact .inl (Nat.eq_of_beq_eq_true h2)
  ·refine .inr fun e => ?_
   have h3 : (pa6 ops j != some d) = true := h2
   rw [e] at h3
   simp at h3
theorem DC.bare {j : Nat} (hj : j < ops.size) : Yc0 (pa5 tr P ops j) = true := by
 have h := hD.one j hj
 unfold Eb2 at h
 rw [hD.at' j hj] at h
 simp only [Bool.and_eq_true] at h
 exact h.1.1.2
theorem DC.allocDst {j : Nat} (hj : j < ops.size) (h0 : G9 tr P ops j = 0) : ∃ d, pa6 ops j = some d := by
 have h := hD.one j hj
 unfold Eb2 at h
 rw [hD.at' j hj] at h
 simp only [Bool.and_eq_true, Bool.or_eq_true, Bool.not_eq_true'] at h
 rcases h.1.2 with h2 | h2
 ·rw [h0] at h2; cases h2
 ·exact Option.isSome_iff_exists.1 h2
theorem DC.chain {i j : Nat} (hi : i < j) (hj : j < ops.size) (hki : G9 tr P ops i = 2) (hkj : G9 tr P ops j = 2) : q8 M i j = true ∧ ∀ a, q8 M a i = true → q8 M a j = true := by
 have h := hD.one j hj
 unfold Eb2 at h
 rw [hD.at' j hj] at h
 simp only [Bool.and_eq_true, Bool.or_eq_true, Bool.not_eq_true'] at h
 rcases h.2 with h2 | h2
 ·rw [hkj] at h2; cases h2
 ·have h3 := List.all_eq_true.1 h2 i (List.mem_range.2 hi)
  rw [hD.at' i (by omega), hki] at h3
  simp only [Bool.and_eq_true] at h3
  refine ⟨h3.1, fun a ha => ?_⟩
  have h4 := Nat.eq_of_beq_eq_true h3.2
  unfold q8 at ha ⊢
  rw [← h4, Nat.testBit_and, Bool.and_eq_true] at ha
  exact ha.2
theorem DC.pair {i j : Nat} (hi : i < ops.size) (hj : j < ops.size) (hkj : G9 tr P ops j = 1) (hki : G9 tr P ops i = 2) (h1 : q8 M i j = false) (h2 : q8 M j i = false) :
  (pa5 tr P ops j, pa5 tr P ops i) ∈ Va1 ops.size M ks := by
 unfold Va1
 rw [List.mem_flatMap]
 refine ⟨j, List.mem_range.2 hj, ?_⟩
 rw [hD.at' j hj, hkj]
 simp only
 rw [List.mem_filterMap]
 refine ⟨i, List.mem_range.2 hi, ?_⟩
 rw [hD.at' i hi, hki]
 simp [h1, h2, Hb4]
end
end Go.Ev
namespace Go.Ev
open Go
structure Ad7 (E : Env) (ops : Array Oper) (ks : List (Nat × PI)) (s : St) (U T : Nat → St) : Prop where
 u0 : U 0 = s
 u : ∀ j, j < ops.size → pb6 E (xb1 ks) U j
 t0 : T 0 = U ops.size
 t : ∀ j, j < ops.size → pb6 E (Pb6 ks) T j
def Aa3 (z : List b7) : b8 := { et := 0, es := z.length, elems := [z], own := true, dead := false, g := 0 }
theorem Rb5 (a : List b7) (dst : Option Nat) (x : b7) : (putA a dst x).length = a.length := by
 rw [Eb9]
 cases dst <;> simp
theorem Rb6 {a : List b7} {dst : Option Nat} {x : b7} {t : Nat} (h : dst ≠ some t) : (putA a dst x)[t]? = a[t]? := by
 rw [Eb9]
 cases dst with
 | none => rfl
 | some d => simp only; rw [List.getElem?_set_ne (fun e => h (by rw [e]))]
theorem nc8 {a : List b7} {d : Nat} {x : b7} (h : d < a.length) : (putA a (some d) x)[d]? = some x := by
 rw [Eb9]
 exact List.getElem?_set_self h
section
variable {tr : Nat} {E : Env} {ops : Array Oper} {M : List Nat} {ks : List (Nat × PI)} {s : St} {U T : Nat → St}
variable (hD : DC tr E.P ops M ks) (hT : Ad7 E ops ks s U T)
include hD
theorem mb3 {i j : Nat} (hj : j < ops.size) (hi : i < ops.size) (hb : q8 M i j = true) : i < j := by
 refine fc7 hD.rows (· < j) (fun m o ho hm i hi => ?_) j _ (qa2 hj) (fun i hi => Rb3 hD.rows (qa2 hj) hi) i hi hb
 have := Rb3 hD.rows ho hi
 omega
theorem nd7 {j : Nat} (hj : j < ops.size) (h : G9 tr E.P ops j = 0) : xb1 ks j = some (Hb4 tr E.P ops M j) ∧ Pb6 ks j = none := by
 unfold xb1 Pb6
 rw [hD.at' j hj, h]
 exact ⟨rfl, rfl⟩
theorem Hd0 {j : Nat} (hj : j < ops.size) (h : G9 tr E.P ops j ≠ 0) : xb1 ks j = none ∧ Pb6 ks j = some (Hb4 tr E.P ops M j) := by
 unfold xb1 Pb6
 rw [hD.at' j hj]
 rcases yb4 (tr := tr) (P := E.P) (ops := ops) j with h' | h' | h'
 ·exact absurd h' h
 ·rw [h']; exact ⟨rfl, rfl⟩
 ·rw [h']; exact ⟨rfl, rfl⟩
include hT
theorem Pc7 {j : Nat} (hj : j < ops.size) (h : G9 tr E.P ops j ≠ 0) : U (j + 1) = U j := by
 have := hT.u j hj
 unfold pb6 at this
 rw [(Hd0 hD hj h).1] at this
 exact this
theorem Rb7 {j : Nat} (hj : j < ops.size) (h : G9 tr E.P ops j = 0) : T (j + 1) = T j := by
 have := hT.t j hj
 unfold pb6 at this
 rw [(nd7 hD hj h).2] at this
 exact this
theorem gb9 {j : Nat} (hj : j < ops.size) (h : G9 tr E.P ops j = 0) : ∃ t z d, (Ba8 ops j).op = .alloc t ∧ (Ba8 ops j).guard = none ∧ zeT E.P t = some z ∧ pa6 ops j = some d ∧
  U (j + 1) = ⟨putA (U j).a (some d) (.ptr (U j).H.length 0 0 0), (U j).H ++ [Aa3 z]⟩ := by
 have hst := hT.u j hj
 unfold pb6 at hst
 rw [(nd7 hD hj h).1] at hst
 obtain ⟨d, hd⟩ := hD.allocDst hj h
 have ha := rc4 h
 unfold gb4 at ha
 cases hop : (Ba8 ops j).op with
 | alloc t =>
  simp only [hop] at ha
  have hg : (Ba8 ops j).guard = none := by simpa using ha
  have hgd : Hb3 ops j = none := by simp [Hb3, Z8, hg]
  cases hz : zeT E.P t with
  | none =>
   exfalso
   have hbad : pa5 tr E.P ops j = .bad := by simp [pa5, xb0, ob9, cOp, hop, hz]
   obtain ⟨b, h1, h2, h3⟩ := pb8 hst
   have hb : b = true := by
    have : Zb7 E (U j).a (Hb3 ops j) = some b := h1
    rw [hgd] at this
    injection this with this
    exact this.symm
   obtain ⟨x, H', h4, _⟩ := rc2 (h2 hb)
   have h4' : (evalOp E (U j).a (wb4 (U j).H (Ja7 (U j).a (Hb4 tr E.P ops M j).hide)) (pa5 tr E.P ops j)).run = some (x, H') := h4
   rw [hbad] at h4'
   cases h4'
  | some z =>
   refine ⟨t, z, d, rfl, hg, hz, hd, ?_⟩
   have hpo : pa5 tr E.P ops j = .alloc z := by simp [pa5, xb0, ob9, cOp, hop, hz]
   have hhide : (Hb4 tr E.P ops M j).hide = [] := by simp [Hb4, h]
   obtain ⟨b, h1, h2, h3⟩ := pb8 hst
   have hb : b = true := by
    have : Zb7 E (U j).a (Hb3 ops j) = some b := h1
    rw [hgd] at this
    injection this with this
    exact this.symm
   obtain ⟨x, H', h4, h5⟩ := rc2 (h2 hb)
   rw [hhide] at h4 h5
   have h4' : (evalOp E (U j).a (U j).H (pa5 tr E.P ops j)).run = some (x, H') := h4
   rw [hpo] at h4'
   simp only [evalOp, DT.run_ret, l6, la0, C0] at h4'
   injection h4' with h4'
   injection h4' with e1 e2
   subst e1 e2
   rw [h5]
   show (⟨putA (U j).a (pa6 ops j) _, _⟩ : St) = _
   rw [hd]
   rfl
 | _ => simp [hop] at ha
theorem Pc8 {j : Nat} (hj : j < ops.size) (h : G9 tr E.P ops j ≠ 0) : ∃ b, Zb7 E (T j).a (Hb3 ops j) = some b ∧
  (b = true → ∃ x H', (evalOp E (T j).a (wb4 (T j).H (Ja7 (T j).a (Hb4 tr E.P ops M j).hide)) (pa5 tr E.P ops j)).run = some (x, H') ∧
   T (j + 1) = ⟨putA (T j).a (pa6 ops j) x, Ra5 (T j).H H' (Ja7 (T j).a (Hb4 tr E.P ops M j).hide)⟩) ∧
  (b = false → T (j + 1) = ⟨putA (T j).a (pa6 ops j) (.v (.tuple #[])), (T j).H⟩) := by
 have hst := hT.t j hj
 unfold pb6 at hst
 rw [(Hd0 hD hj h).2] at hst
 obtain ⟨b, h1, h2, h3⟩ := pb8 hst
 exact ⟨b, h1, fun hb => rc2 (h2 hb), h3⟩
theorem Pc9 {t : Nat} : ∀ (d u : Nat), u + d ≤ ops.size → (∀ j, u ≤ j → j < u + d → G9 tr E.P ops j = 0 → pa6 ops j ≠ some t) → (U (u + d)).a[t]? = (U u).a[t]?
 | 0, u, _, _ => rfl
 | d + 1, u, hb, hn => by
  have ih := Pc9 d u (by omega) fun j h1 h2 => hn j h1 (by omega)
  rw [← ih]
  show (U (u + d + 1)).a[t]? = _
  by_cases hk : G9 tr E.P ops (u + d) = 0
  ·obtain ⟨_, z, d', _, _, _, hd', hU⟩ := gb9 hD hT (j := u + d) (by omega) hk
   rw [hU]
   exact Rb6 (hd' ▸ hn (u + d) (by omega) (by omega) hk)
  ·rw [Pc7 hD hT (by omega) hk]
theorem Mb0 {t : Nat} : ∀ (d u : Nat), u + d ≤ ops.size → (∀ j, u ≤ j → j < u + d → G9 tr E.P ops j ≠ 0 → pa6 ops j ≠ some t) → (T (u + d)).a[t]? = (T u).a[t]?
 | 0, u, _, _ => rfl
 | d + 1, u, hb, hn => by
  have ih := Mb0 d u (by omega) fun j h1 h2 => hn j h1 (by omega)
  rw [← ih]
  show (T (u + d + 1)).a[t]? = _
  by_cases hk : G9 tr E.P ops (u + d) = 0
  ·rw [Rb7 hD hT (by omega) hk]
  ·obtain ⟨b, h1, h2, h3⟩ := Pc8 hD hT (j := u + d) (by omega) hk
   have hne := hn (u + d) (by omega) (by omega) hk
   cases b with
   | true =>
    obtain ⟨x, H', _, h5⟩ := h2 rfl
    rw [h5]; exact Rb6 hne
   | false => rw [h3 rfl]; exact Rb6 hne
theorem yb5 : ∀ j, j ≤ ops.size → (U j).a.length = s.a.length ∧ (T j).a.length = s.a.length := by
 have hu : ∀ j, j ≤ ops.size → (U j).a.length = s.a.length := by
  intro j
  induction j with
  | zero => intro _; rw [hT.u0]
  | succ j ih =>
   intro hj
   by_cases hk : G9 tr E.P ops j = 0
   ·obtain ⟨_, z, d', _, _, _, hd', hU⟩ := gb9 hD hT (j := j) (by omega) hk
    rw [hU]
    simp only [Rb5]
    exact ih (by omega)
   ·rw [Pc7 hD hT (by omega) hk]; exact ih (by omega)
 intro j
 induction j with
 | zero => intro _; exact ⟨hu 0 (by omega), by rw [hT.t0]; exact hu _ (Nat.le_refl _)⟩
 | succ j ih =>
  intro hj
  refine ⟨hu _ hj, ?_⟩
  by_cases hk : G9 tr E.P ops j = 0
  ·rw [Rb7 hD hT (by omega) hk]; exact (ih (by omega)).2
  ·obtain ⟨b, h1, h2, h3⟩ := Pc8 hD hT (j := j) (by omega) hk
   cases b with
   | true =>
    obtain ⟨x, H', _, h5⟩ := h2 rfl
    rw [h5]; simp only [Rb5]; exact (ih (by omega)).2
   | false => rw [h3 rfl]; simp only [Rb5]; exact (ih (by omega)).2
theorem Hd1 {j : Nat} (hj : j < ops.size) (hl : pb0 (pa5 tr E.P ops j) = false) : Agr (T j).a (T ops.size).a (Lb2 (Hb3 ops j) ++ gb5 (pa5 tr E.P ops j)) := fun t ht => by
 have := Mb0 hD hT (t := t) (ops.size - j) j (by omega) fun i h1 h2 hk he => by
  have hi : i < ops.size := by omega
  rcases (hD.slots hi hj he).1 ht with hb | hb
  ·have := mb3 hD hj hi hb
   omega
  ·rw [hl] at hb; cases hb.1
 rw [show j + (ops.size - j) = ops.size by omega] at this
 exact this.symm
theorem be0 {j d : Nat} (hj : j < ops.size) (hd : pa6 ops j = some d) : (T ops.size).a[d]? = (T (j + 1)).a[d]? := by
 have := Mb0 hD hT (t := d) (ops.size - (j + 1)) (j + 1) (by omega) fun i h1 h2 hk he => by
  have hi : i < ops.size := by omega
  rcases (hD.slots hi hj he).2 with h | h
  ·omega
  ·exact h hd
 rw [show j + 1 + (ops.size - (j + 1)) = ops.size by omega] at this
 exact this
theorem Qc0 {j d v : Nat} (hj : j < ops.size) (h : G9 tr E.P ops j = 0) (hd : pa6 ops j = some d) (hlt : d < s.a.length) (hv : v ≤ ops.size) : (T v).a[d]? = some (.ptr (U j).H.length 0 0 0) := by
 have hne : ∀ i, i < ops.size → i ≠ j → pa6 ops i ≠ some d := fun i hi hij he => by
  rcases (hD.slots hi hj he).2 with h | h
  ·exact hij h
  ·exact h hd
 have h1 := Mb0 hD hT (t := d) v 0 (by omega) fun i _ h2 hk => hne i (by omega) fun e => hk (e ▸ h)
 rw [Nat.zero_add] at h1
 rw [h1, hT.t0]
 have h2 := Pc9 hD hT (t := d) (ops.size - (j + 1)) (j + 1) (by omega) fun i h3 h4 _ => hne i (by omega) (by omega)
 rw [show j + 1 + (ops.size - (j + 1)) = ops.size by omega] at h2
 rw [h2]
 obtain ⟨_, z, d', _, _, _, hd', hU⟩ := gb9 hD hT hj h
 have : d' = d := Option.some.inj (hd'.symm.trans hd)
 subst this
 rw [hU]
 exact nc8 (by rw [(yb5 hD hT j (by omega)).1]; exact hlt)
theorem Qc1 : ∀ (d u : Nat), u + d ≤ ops.size → ∃ l, (U (u + d)).H = (U u).H ++ l
 | 0, u, _ => ⟨[], by simp⟩
 | d + 1, u, hb => by
  obtain ⟨l, hl⟩ := Qc1 d u (by omega)
  show ∃ l, (U (u + d + 1)).H = _
  by_cases hk : G9 tr E.P ops (u + d) = 0
  ·obtain ⟨_, z, d', _, _, _, hd', hU⟩ := gb9 hD hT (j := u + d) (by omega) hk
   exact ⟨l ++ [Aa3 z], by rw [hU, hl, List.append_assoc]⟩
  ·exact ⟨l, by rw [Pc7 hD hT (by omega) hk, hl]⟩
theorem me5 {i j : Nat} (hij : i < j) (hj : j ≤ ops.size) (hk : G9 tr E.P ops i = 0) : (U i).H.length < (U j).H.length := by
 obtain ⟨_, z, d', _, _, _, hd', hU⟩ := gb9 hD hT (j := i) (by omega) hk
 obtain ⟨l, hl⟩ := Qc1 hD hT (j - (i + 1)) (i + 1) (by omega)
 rw [show i + 1 + (j - (i + 1)) = j by omega] at hl
 rw [hl, hU]
 simp
theorem nd8 {j : Nat} (hj : j ≤ ops.size) : s.H.length ≤ (U j).H.length ∧ ∀ i, i < s.H.length → (U j).H[i]? = s.H[i]? := by
 obtain ⟨l, hl⟩ := Qc1 hD hT j 0 (by omega)
 rw [Nat.zero_add, hT.u0] at hl
 rw [hl]
 exact ⟨by simp, fun i hi => List.getElem?_append_left hi⟩
theorem nd9 {j : Nat} (hj : j < ops.size) (hk : G9 tr E.P ops j = 0) : ∃ t z, (Ba8 ops j).op = .alloc t ∧ zeT E.P t = some z ∧ (T 0).H[(U j).H.length]? = some (Aa3 z) := by
 obtain ⟨t, z, d', h1, _, h2, hd', hU⟩ := gb9 hD hT hj hk
 refine ⟨t, z, h1, h2, ?_⟩
 obtain ⟨l, hl⟩ := Qc1 hD hT (ops.size - (j + 1)) (j + 1) (by omega)
 rw [show j + 1 + (ops.size - (j + 1)) = ops.size by omega, hU] at hl
 rw [hT.t0, hl]
 simp
theorem Hd2 : ∀ (v : Nat), v ≤ ops.size → ∀ id, s.H.length ≤ id → id < (U v).H.length → ∃ j, j < v ∧ G9 tr E.P ops j = 0 ∧ id = (U j).H.length
 | 0, _, id, h1, h2 => by rw [hT.u0] at h2; omega
 | v + 1, hv, id, h1, h2 => by
  by_cases hk : G9 tr E.P ops v = 0
  ·obtain ⟨_, z, d', _, _, _, hd', hU⟩ := gb9 hD hT (j := v) (by omega) hk
   rw [hU] at h2
   simp at h2
   by_cases he : id < (U v).H.length
   ·obtain ⟨j, h3, h4, h5⟩ := Hd2 v (by omega) id h1 he
    exact ⟨j, by omega, h4, h5⟩
   ·exact ⟨v, by omega, hk, by omega⟩
  ·rw [Pc7 hD hT (by omega) hk] at h2
   obtain ⟨j, h3, h4, h5⟩ := Hd2 v (by omega) id h1 h2
   exact ⟨j, by omega, h4, h5⟩
end
end Go.Ev
namespace Go.Ev
open Go
section
variable {E : Env} {a a' : List b7}
theorem Rb8 {o : PO} (h : Agr a a' (gb5 o)) : Ba6 E a o = Ba6 E a' o := by
 cases o with
 | load ks n agg x => simp only [Ba6, Agr.arg (E := E) (x := x) h]
 | idxS es x i => simp only [Ba6, Agr.arg (E := E) h.left]
 | slice es x lo hi => simp only [Ba6, Agr.arg (E := E) h.left.left]
 | _ => rfl
theorem Cc1 {o : PO} (h : Agr a a' (gb5 o)) : L1 E a o = L1 E a' o := by
 cases o with
 | store n x y => simp only [L1, Agr.arg (E := E) h.left]
 | append et es by' x y => simp only [L1, Agr.arg (E := E) h.left]
 | copy es x y => simp only [L1, Agr.arg (E := E) h.left]
 | apre es x y => simp only [L1, Agr.arg (E := E) h.left]
 | clr es z x => simp only [L1, Agr.arg (E := E) h]
 | call f xs => simp only [L1, Agr.args (E := E) h]
 | calld x xs => simp only [L1, Agr.args (E := E) h.right, Agr.arg (E := E) h.left]
 | _ => rfl
theorem Rb9 {o : PO} (h : pb0 o = true) : Ba6 E a o = [] := by cases o <;> first | rfl | cases h
theorem Jb0 {o : PO} (h : pb0 o = true) : L1 E a o = [] := by cases o <;> first | rfl | cases h
theorem rc5 : ∀ {l : List (PO × PO)}, gb2 E a l = true → ∀ {p : PO × PO}, p ∈ l → ∀ id ∈ Ba6 E a p.1, id ∉ L1 E a p.2
 | [], _, p, hp => by cases hp
 | q :: l, h, p, hp => by
  have e : gb2 E a (q :: l) = Bool.rec false (gb2 E a l) (Ya3 (Ba6 E a q.1) (L1 E a q.2)) := rfl
  rw [e] at h
  cases hq : Ya3 (Ba6 E a q.1) (L1 E a q.2) with
  | false => rw [hq] at h; cases h
  | true =>
   rw [hq] at h
   rcases List.mem_cons.1 hp with rfl | hp
   ·exact Zb3 hq
   ·exact rc5 h hp
theorem rc6 : ∀ {l : List PI}, Eb1 a l = true → ∀ p ∈ l, ∀ d, p.dst = some d → d < a.length
 | [], _, p, hp => by cases hp
 | q :: l, h, p, hp => fun d hd => by
  have e : Eb1 a (q :: l) = (match q.dst with
   | some d => match nth a d with
    | some _ => Eb1 a l
    | none => false
   | none => false) := rfl
  rw [e] at h
  cases hq : q.dst with
  | none => simp [hq] at h
  | some d' =>
  simp only [hq, y6] at h
  cases hn : a[d']? with
  | none => simp [hn] at h
  | some x =>
  simp only [hn] at h
  rcases List.mem_cons.1 hp with rfl | hp
  ·have : d' = d := Option.some.inj (hq.symm.trans hd)
   subst this
   exact (List.getElem?_eq_some_iff.1 hn).1
  ·exact rc6 h p hp d hd
theorem rc7 {tr : Nat} {P : Program} {ops : Array Oper} {j : Nat} : G9 tr P ops j = 0 ↔ gb4 (Ba8 ops j) = true := by
 refine ⟨rc4, fun h => ?_⟩
 unfold G9 Ib5
 rw [if_pos h]
end
section
variable {tr : Nat} {E : Env} {ops : Array Oper} {M : List Nat} {ks : List (Nat × PI)} {s : St} {U T : Nat → St}
variable (hD : DC tr E.P ops M ks) (hT : Ad7 E ops ks s U T) (hin : ∀ j, j < ops.size → G9 tr E.P ops j = 0 → ∀ d, pa6 ops j = some d → d < s.a.length)
include hD hT
theorem Hd3 {j : Nat} (hj : j < ops.size) : Ba6 E (T j).a (pa5 tr E.P ops j) = Ba6 E (T ops.size).a (pa5 tr E.P ops j) := by
 cases hl : pb0 (pa5 tr E.P ops j) with
 | true => rw [Rb9 hl, Rb9 hl]
 | false => exact Rb8 (Hd1 hD hT hj hl).right
theorem Ad8 {j : Nat} (hj : j < ops.size) : L1 E (T j).a (pa5 tr E.P ops j) = L1 E (T ops.size).a (pa5 tr E.P ops j) := by
 cases hl : pb0 (pa5 tr E.P ops j) with
 | true => rw [Jb0 hl, Jb0 hl]
 | false => exact Cc1 (Hd1 hD hT hj hl).right
theorem nc9 {j : Nat} (hj : j < ops.size) (h : G9 tr E.P ops j = 1) : ∃ b x, Zb7 E (T j).a (Hb3 ops j) = some b ∧ T (j + 1) = ⟨putA (T j).a (pa6 ops j) x, (T j).H⟩ ∧
  (b = true → (evalOp E (T j).a (T j).H (pa5 tr E.P ops j)).run = some (x, (T j).H)) ∧ (b = false → x = .v (.tuple #[])) := by
 obtain ⟨b, h1, h2, h3⟩ := Pc8 hD hT hj (by omega)
 have hh : (Hb4 tr E.P ops M j).hide = [] := by simp [Hb4, h]
 cases b with
 | true =>
  obtain ⟨x, H', h4, h5⟩ := h2 rfl
  rw [hh] at h4 h5
  have h4' : (evalOp E (T j).a (T j).H (pa5 tr E.P ops j)).run = some (x, H') := h4
  have he := (Qb9 (ad9 h) h4').1
  subst he
  exact ⟨true, x, h1, h5, fun _ => h4', fun h => by cases h⟩
 | false => exact ⟨false, _, h1, h3 rfl, fun h => (by cases h), fun _ => rfl⟩
theorem od0 : ∀ (d u : Nat), u + d ≤ ops.size → (∀ j, u ≤ j → j < u + d → G9 tr E.P ops j ≠ 2) → (T (u + d)).H = (T u).H
 | 0, u, _, _ => rfl
 | d + 1, u, hb, hn => by
  have ih := od0 d u (by omega) fun j h1 h2 => hn j h1 (by omega)
  rw [← ih]
  show (T (u + d + 1)).H = _
  rcases yb4 (tr := tr) (P := E.P) (ops := ops) (u + d) with hk | hk | hk
  ·rw [Rb7 hD hT (by omega) hk]
  ·obtain ⟨b, x, _, h2, _⟩ := nc9 hD hT (j := u + d) (by omega) hk
   rw [h2]
  ·exact absurd hk (hn (u + d) (by omega) (by omega))
include hin
theorem Sd1 {j : Nat} (hj : j < ops.size) (h : G9 tr E.P ops j = 2) (id : Nat) : id ∈ Ja7 (T j).a (Hb4 tr E.P ops M j).hide ↔ ∃ b, b < ops.size ∧ G9 tr E.P ops b = 0 ∧ q8 M b j = false ∧ id = (U b).H.length := by
 have hh : (Hb4 tr E.P ops M j).hide = Yb8 ops M j := by simp [Hb4, h]
 rw [hh]
 unfold Ja7
 rw [l8, List.mem_map]
 constructor
 ·rintro ⟨d, hd, he⟩
  unfold Yb8 at hd
  rw [List.mem_filterMap] at hd
  obtain ⟨b, hb, hb2⟩ := hd
  have hb1 := List.mem_range.1 hb
  simp only [qa2 hb1] at hb2
  split at hb2
  ·rename_i hc
   rw [Bool.and_eq_true, Bool.not_eq_true'] at hc
   have hk : G9 tr E.P ops b = 0 := rc7.2 hc.1
   have ha := Qc0 hD hT hb1 hk hb2 (hin b hb1 hk d hb2) (v := j) (by omega)
   rw [y6, ha] at he
   exact ⟨b, hb1, hk, hc.2, he.symm⟩
  ·cases hb2
 ·rintro ⟨b, hb1, hk, hc, rfl⟩
  obtain ⟨d, hd⟩ := hD.allocDst hb1 hk
  refine ⟨d, ?_, ?_⟩
  ·unfold Yb8
   rw [List.mem_filterMap]
   refine ⟨b, List.mem_range.2 hb1, ?_⟩
   have h2 : (gb4 (Ba8 ops b) && !q8 M b j) = true := by rw [rc7.1 hk, hc]; rfl
   simp only [qa2 hb1, h2, if_true]
   exact hd
  ·rw [y6, Qc0 hD hT hb1 hk hd (hin b hb1 hk d hd) (v := j) (by omega)]
theorem Qc2 {j : Nat} (hj : j < ops.size) (h : G9 tr E.P ops j = 2) : ∃ b x, Zb7 E (T j).a (Hb3 ops j) = some b ∧ (T (j + 1)).a = putA (T j).a (pa6 ops j) x ∧
  (b = true → ∃ hid H', (∀ id, id ∈ hid ↔ ∃ b, b < ops.size ∧ G9 tr E.P ops b = 0 ∧ q8 M b j = false ∧ id = (U b).H.length) ∧
   (evalOp E (T j).a (Z2 (T j).H (· ∈ hid)) (pa5 tr E.P ops j)).run = some (x, H') ∧ (T (j + 1)).H = Ra5 (T j).H H' hid) ∧
  (b = false → x = .v (.tuple #[]) ∧ (T (j + 1)).H = (T j).H) := by
 obtain ⟨b, h1, h2, h3⟩ := Pc8 hD hT hj (by omega)
 cases b with
 | true =>
  obtain ⟨x, H', h4, h5⟩ := h2 rfl
  rw [Ad6] at h4
  exact ⟨true, x, h1, by rw [h5], fun _ => ⟨_, H', Sd1 hD hT hin hj h, h4, by rw [h5]⟩, fun h => by cases h⟩
 | false => exact ⟨false, _, h1, by rw [h3 rfl], fun h => (by cases h), fun _ => ⟨rfl, by rw [h3 rfl]⟩⟩
omit hD hT hin in
theorem Kc0 {H : List b8} {l : List Nat} (hb : ∀ id ∈ l, id < H.length) : D1 (· ∈ l) (Z2 H (· ∈ l)) (Z2 H (· ∈ l)) (Z2 H (· ∈ l)) (Z2 H (· ∈ l)) :=
 ⟨rfl, fun _ _ => rfl, fun id b hD hb => by
  rw [ha4 hD] at hb
  simp only [Option.map_eq_some_iff] at hb
  obtain ⟨c, _, rfl⟩ := hb
  rfl, fun _ _ => rfl, fun _ _ => rfl, fun id h => by rw [Xa7]; exact hb id h⟩
theorem Qc3 {b : Nat} (hb : b < ops.size) (hk : G9 tr E.P ops b = 0) : ∀ (v : Nat), v ≤ ops.size → (∀ h, h < v → G9 tr E.P ops h = 2 → q8 M b h = false) → (T v).H[(U b).H.length]? = (T 0).H[(U b).H.length]?
 | 0, _, _ => rfl
 | v + 1, hv, hn => by
  have ih := Qc3 hb hk v (by omega) fun h h1 => hn h (by omega)
  rw [← ih]
  rcases yb4 (tr := tr) (P := E.P) (ops := ops) v with h0 | h0 | h0
  ·rw [Rb7 hD hT (by omega) h0]
  ·obtain ⟨b, x, _, h2, _⟩ := nc9 hD hT (j := v) (by omega) h0
   rw [h2]
  ·obtain ⟨bb, x, h1, _, h3, h4⟩ := Qc2 hD hT hin (j := v) (by omega) h0
   cases bb with
   | false => rw [(h4 rfl).2]
   | true =>
    obtain ⟨hid, H', h5, h6, h7⟩ := h3 rfl
    rw [h7]
    -- every Ja7 block stands in the heap
    have hall : ∀ id ∈ hid, id < (T v).H.length := fun id hid' => by
     obtain ⟨b', k1, k2, k3, rfl⟩ := (h5 id).1 hid'
     have := Qc3 k1 k2 v (by omega) fun h h1 h2 => by
      cases hc : q8 M b' h with
      | false => rfl
      | true =>
       rw [(hD.chain h1 (by omega) h2 h0).2 b' hc] at k3
       cases k3
     obtain ⟨t, z, _, _, hz⟩ := nd9 hD hT k1 k2
     rw [hz] at this
     exact (List.getElem?_eq_some_iff.1 this).1
    have hm : (U b).H.length ∈ hid := (h5 _).2 ⟨b, hb, hk, hn v (by omega) h0, rfl⟩
    obtain ⟨H2', _, hM⟩ := (Kc0 hall).evalOp (E := E) (a := (T v).a) (Rb4 h0) h6
    refine Zb6 hm (hall _ hm) ?_
    exact hM.bound _ hm
theorem Hd4 {j : Nat} (hj : j < ops.size) (h0 : G9 tr E.P ops j = 2) {b : Nat} (k1 : b < ops.size) (k2 : G9 tr E.P ops b = 0) (k3 : q8 M b j = false) : (U b).H.length < (T j).H.length := by
 have := Qc3 hD hT hin k1 k2 j (by omega) fun h h1 h2 => by
  cases hc : q8 M b h with
  | false => rfl
  | true =>
   rw [(hD.chain h1 hj h2 h0).2 b hc] at k3
   cases k3
 obtain ⟨t, z, _, _, hz⟩ := nd9 hD hT k1 k2
 rw [hz] at this
 exact (List.getElem?_eq_some_iff.1 this).1
theorem Sd2 {j : Nat} (hj : j < ops.size) {id : Nat} (hn : G9 tr E.P ops j = 2 → id ∉ L1 E (T ops.size).a (pa5 tr E.P ops j)) : K3 (T j).H (T (j + 1)).H id := by
 rcases yb4 (tr := tr) (P := E.P) (ops := ops) j with h0 | h0 | h0
 ·rw [Rb7 hD hT hj h0]; exact .refl _ _
 ·obtain ⟨b, x, _, h2, _⟩ := nc9 hD hT hj h0
  rw [h2]; exact .refl _ _
 ·obtain ⟨bb, x, h1, _, h3, h4⟩ := Qc2 hD hT hin hj h0
  cases bb with
  | false => rw [(h4 rfl).2]; exact .refl _ _
  | true =>
   obtain ⟨hid, H', h5, h6, h7⟩ := h3 rfl
   rw [h7]
   have hall : ∀ id ∈ hid, id < (T j).H.length := fun id hid' => by
    obtain ⟨b', k1, k2, k3, rfl⟩ := (h5 id).1 hid'
    exact Hd4 hD hT hin hj h0 k1 k2 k3
   obtain ⟨H2', _, hM⟩ := (Kc0 hall).evalOp (E := E) (a := (T j).a) (Rb4 h0) h6
   intro b hb
   by_cases hm : id ∈ hid
   ·refine ⟨b, ?_, .refl b⟩
    rw [Zb6 hm (hall _ hm) (hM.bound _ hm)]
    exact hb
   ·rw [rc0 hm]
    have hslots : L1 E (T j).a (pa5 tr E.P ops j) = L1 E (T ops.size).a (pa5 tr E.P ops j) := Ad8 hD hT hj
    exact Pc6 (Rb4 h0) h6 (by rw [hslots]; exact hn h0) b (by rw [K4 (D := (· ∈ hid)) hm]; exact hb)
theorem od1 {id : Nat} : ∀ (d u : Nat), u + d ≤ ops.size → (∀ j, u ≤ j → j < u + d → G9 tr E.P ops j = 2 → id ∉ L1 E (T ops.size).a (pa5 tr E.P ops j)) → K3 (T u).H (T (u + d)).H id
 | 0, u, _, _ => .refl _ _
 | d + 1, u, hb, hn =>
  (od1 d u (by omega) fun j h1 h2 => hn j h1 (by omega)).trans (Sd2 hD hT hin (j := u + d) (by omega) (hn (u + d) (by omega) (by omega)))
end
end Go.Ev
namespace Go.Ev
open Go
section
variable {W : Nat → Prop} {ρ ρ' : Rho} {H H' : List b8} {F F' : Fz} {w w' : World}
def Kc1 (ρ : Rho) (H : List b8) (ρ' : Rho) (H' : List b8) : Prop := ∀ (id : Nat) b, H[id]? = some b → b.dead = false → ∃ b', H'[id]? = some b' ∧ b'.dead = false ∧ b.g ≤ b'.g ∧ (b'.g = b.g → ρ' id = ρ id ∧ b'.es = b.es ∧ b.elems.length ≤ b'.elems.length)
section
variable (hk : Kc1 ρ H ρ' H') (hm : ∀ b o, F b o → F' b o) (hc : ∀ b o, F b o → w'.cell? ⟨b, o, none⟩ = w.cell? ⟨b, o, none⟩)
include hk hm hc
theorem U2.carry {x : b7} {x' : Value} (h : U2 ρ H F w x x') : U2 ρ' H' F' w' x x' := by
 cases h with
 | mem h => exact .mem (h.adv hm hc)
 | v => exact .v _
 | ptr id i c g a b hb hd hg h =>
  obtain ⟨b', hb', hd', hg', e⟩ := hk id b hb hd
  refine .ptr id i c g a b' hb' hd' (Nat.le_trans hg hg') fun hge => ?_
  have hbg : b'.g = b.g := by omega
  obtain ⟨e1, e2, e3⟩ := e hbg
  rw [e1, e2]
  exact h (by omega)
 | sl id off n g a cap b hb hd hg hn hs hm h =>
  obtain ⟨b', hb', hd', hg', e⟩ := hk id b hb hd
  refine .sl id off n g a cap b' hb' hd' (Nat.le_trans hg hg') hn hs hm fun hge => ?_
  have hbg : b'.g = b.g := by omega
  obtain ⟨e1, e2, e3⟩ := e hbg
  obtain ⟨h1, h2, h3⟩ := h (by omega)
  rw [e1, e2]
  exact ⟨h1, h2, Nat.le_trans h3 e3⟩
 | tptr cs a vs hs hF hw hr => exact .tptr cs a vs hs (fun c hlt => hm _ _ (hF c hlt)) (fun c hlt => (hc _ _ (hF c hlt)).trans (hw c hlt)) (fun c hlt => (hr c hlt).adv hm hc)
 | unk x' => exact .unk x'
theorem W0.carry {x : b7} {x' : Value} (h : W0 ρ H F w x x') : W0 ρ' H' F' w' x x' := by
 cases h with
 | cell h => exact .cell (h.carry hk hm hc)
 | agg cs vs hl h => exact .agg cs vs hl fun i x x' hx hx' => (h i x x' hx hx').carry hk hm hc
 | fn f caps vs hl h => exact .fn f caps vs hl fun i x x' hx hx' => (h i x x' hx hx').carry hk hm hc
theorem z8.carry {x : b7} {x' : Value} (h : z8 ρ H F w x x') : z8 ρ' H' F' w' x x' := by
 cases h with
 | val h => exact .val (h.carry hk hm hc)
 | tup xs vs hl h => exact .tup xs vs hl fun i x x' hx hx' => (h i x x' hx hx').carry hk hm hc
theorem la1.carry {a : List b7} {vs : Array Value} (h : la1 ρ H F w a vs) : la1 ρ' H' F' w' a vs :=
 ⟨h.1, fun i x x' hx hx' => (h.2 i x x' hx hx').carry hk hm hc⟩
end
end
section
variable {W : Nat → Prop} {ρ0 : Rho} {H0 : List b8} {F0 : Fz} {w0 w : World}
variable {tr : Nat} {E : Env} {ops : Array Oper} {M : List Nat} {ks : List (Nat × PI)} {s : St} {U T : Nat → St}
def ma0 (listed : Array Bool) (j : Nat) : Prop := listed.getD j true = true
def H7 (tr : Nat) (P : Program) (ops : Array Oper) (U : Nat → St) (listed : Array Bool) (id : Nat) : Prop := ∃ b, b < ops.size ∧ G9 tr P ops b = 0 ∧ ¬ ma0 listed b ∧ id = (U b).H.length
def N6 (ops : Array Oper) (listed : Array Bool) (t : Nat) : Prop := ∃ i, i < ops.size ∧ pa6 ops i = some t ∧ ¬ ma0 listed i
theorem Ea5 {listed : Array Bool} {i j : Nat} (hi : i < listed.size) : ma0 (listed.setIfInBounds i true) j ↔ ma0 listed j ∨ j = i := by
 unfold ma0
 by_cases e : i = j
 ·subst e; simp [Array.getD, hi]
 ·have : j ≠ i := fun h => e h.symm
  simp only [Array.getD_eq_getD_getElem?, Array.getElem?_setIfInBounds_ne e, this, or_false]
structure yb6 (W : Nat → Prop) (ρ0 : Rho) (H0 : List b8) (F0 : Fz) (w0 : World) (tr : Nat) (E : Env) (ops : Array Oper) (a0 : List b7) (U T : Nat → St) (m : Nat) (listed : Array Bool) (ac : Act) (w : World) : Prop where
 size : listed.size = ops.size
 closed : ∀ j, j < ops.size → ma0 listed j → ∀ i ∈ qa9 (Ba8 ops j), ma0 listed i
 hm : m ≤ ops.size
 heavy : ∀ j, j < ops.size → G9 tr E.P ops j = 2 → (ma0 listed j ↔ j < m)
 inv : Inv W ρ0 H0 F0 w0 ⟨Ja3 (T ops.size).a a0 (N6 ops listed), Z2 (T m).H (H7 tr E.P ops U listed)⟩ ac w
theorem rc8 {listed : Array Bool} {i : Nat} (h : i ∈ Region.ready .any ops listed) : i < ops.size ∧ ¬ ma0 listed i ∧ (listed.size = ops.size → ∀ e ∈ qa9 (Ba8 ops i), e < ops.size → ma0 listed e) := by
 unfold Region.ready at h
 rw [List.mem_filter] at h
 obtain ⟨h1, h2⟩ := h
 have hi := List.mem_range.1 h1
 rw [qa2 hi] at h2
 simp only [Option.map_some, Option.getD_some, Bool.and_eq_true, Bool.not_eq_true'] at h2
 refine ⟨hi, fun h => ?_, fun hsz e he hlt => ?_⟩
 ·unfold ma0 at h; rw [h] at h2; cases h2.1
 ·obtain ⟨ed, h3, h4, h5⟩ := rc1.1 he
  have h6 : (Ba8 ops i).after.all (fun e => !Region.binds .any e || listed.getD e.on false) = true := h2.2
  rw [Array.all_eq_true_iff_forall_mem] at h6
  have h7 := h6 ed h3
  rw [h4, h5] at h7
  simp only [Bool.not_true, Bool.false_or] at h7
  unfold ma0
  have : e < listed.size := by omega
  simp only [Array.getD, this, dite_true] at h7 ⊢
  exact h7
variable (hD : DC tr E.P ops M ks) (hT : Ad7 E ops ks s U T) (hin : ∀ j, j < ops.size → G9 tr E.P ops j = 0 → ∀ d, pa6 ops j = some d → d < s.a.length)
include hD
theorem Ka2 {m : Nat} {listed : Array Bool} {ac : Act} (hR : yb6 W ρ0 H0 F0 w0 tr E ops s.a U T m listed ac w) {j : Nat} (hj : j < ops.size) (hd : ∀ i ∈ qa9 (Ba8 ops j), ma0 listed i) {i : Nat} (hi : i < ops.size) (hb : q8 M i j = true) : ma0 listed i :=
 fc7 hD.rows (ma0 listed) (fun j' o ho hx i hi => by
  have hj' := (Array.getElem?_eq_some_iff.1 ho).1
  have : o = Ba8 ops j' := Option.some.inj (ho.symm.trans (qa2 hj'))
  subst this
  exact hR.closed j' hj' hx i hi) j _ (qa2 hj) hd i hi hb
theorem Ad9 {listed : Array Bool} (hsz : listed.size = ops.size) {i : Nat} (hi : i < ops.size) {x : b7} (hx : ∀ d, pa6 ops i = some d → d < (T ops.size).a.length → (T ops.size).a[d]? = some x) :
  Ja3 (T ops.size).a s.a (N6 ops (listed.setIfInBounds i true)) = putA (Ja3 (T ops.size).a s.a (N6 ops listed)) (pa6 ops i) x := by
 refine List.ext_getElem? fun t => ?_
 have hopen : ∀ t, pa6 ops i ≠ some t → (N6 ops (listed.setIfInBounds i true) t ↔ N6 ops listed t) := fun t hne => by
  constructor
  ·rintro ⟨j, h1, h2, h3⟩
   exact ⟨j, h1, h2, fun h => h3 ((Ea5 (hsz ▸ hi)).2 (.inl h))⟩
  ·rintro ⟨j, h1, h2, h3⟩
   refine ⟨j, h1, h2, fun h => ?_⟩
   rcases (Ea5 (hsz ▸ hi)).1 h with h | h
   ·exact h3 h
   ·subst h; exact hne h2
 by_cases hd : pa6 ops i = some t
 ·have hno : ¬ N6 ops (listed.setIfInBounds i true) t := by
   rintro ⟨j, h1, h2, h3⟩
   rcases (hD.slots hi h1 hd).2 with h | h
   ·exact h3 ((Ea5 (hsz ▸ hi)).2 (.inr h.symm))
   ·exact h h2
  rw [Ka1 hno, hd]
  rcases Nat.lt_or_ge t (T ops.size).a.length with hlt | hge
  ·rw [nc8 (by rw [Ka0]; exact hlt)]
   exact hx t hd hlt
  ·rw [List.getElem?_eq_none hge, List.getElem?_eq_none (by rw [Rb5, Ka0]; exact hge)]
 ·rw [Rb6 hd]
  by_cases ho : N6 ops listed t
  ·rcases Nat.lt_or_ge t (T ops.size).a.length with hlt | hge
   ·rw [Rb2 ho hlt, Rb2 ((hopen t hd).2 ho) hlt]
   ·rw [List.getElem?_eq_none (by rw [Ka0]; exact hge), List.getElem?_eq_none (by rw [Ka0]; exact hge)]
  ·rw [Ka1 ho, Ka1 fun h => ho ((hopen t hd).1 h)]
include hT
theorem Kc2 {m : Nat} {listed : Array Bool} {ac : Act} (hR : yb6 W ρ0 H0 F0 w0 tr E ops s.a U T m listed ac w) {j : Nat} (hj : j < ops.size) (hnx : ¬ ma0 listed j) (hd : ∀ i ∈ qa9 (Ba8 ops j), ma0 listed i) :
  Agr (T j).a (Ja3 (T ops.size).a s.a (N6 ops listed)) (Lb2 (Hb3 ops j) ++ gb5 (pa5 tr E.P ops j)) := fun t ht => by
 have huniq : ∀ {i i' : Nat}, i < ops.size → i' < ops.size → pa6 ops i = some t → pa6 ops i' = some t → i = i' := fun {i i'} h1 h2 e1 e2 => ((hD.slots h1 h2 e1).2).resolve_right fun h => h e2
 have hend : (∀ i, j ≤ i → i < ops.size → pa6 ops i ≠ some t) → (T j).a[t]? = (T ops.size).a[t]? := fun h => by
  have := Mb0 hD hT (t := t) (ops.size - j) j (by omega) fun i h1 h2 _ => h i h1 (by omega)
  rw [show j + (ops.size - j) = ops.size by omega] at this
  exact this.symm
 by_cases hw : ∃ i, i < ops.size ∧ pa6 ops i = some t
 ·obtain ⟨i, hi, hdi⟩ := hw
  rcases (hD.slots hi hj hdi).1 ht with hb | ⟨_, hna, hb⟩
  ·have hxi := Ka2 hD hR hj hd hi hb
   rw [Ka1]
   ·refine hend fun k h1 h2 he => ?_
    have := huniq hi h2 hdi he
    have := mb3 hD hj hi hb
    omega
   ·rintro ⟨k, h1, h2, h3⟩
    have := huniq hi h1 hdi h2
    subst this
    exact h3 hxi
  ·have hxi : ¬ ma0 listed i := fun hx => by
    rcases hb with hb | hb
    ·exact hnx (Ka2 hD hR hi (hR.closed i hi hx) hj hb)
    ·subst hb; exact hnx hx
   have hji : j ≤ i := by
    rcases hb with hb | hb
    ·have := mb3 hD hi hj hb; omega
    ·omega
   have h1 := Mb0 hD hT (t := t) j 0 (by omega) fun k _ h2 _ he => by
    have := huniq hi (by omega) hdi he
    omega
   have h2 := Pc9 hD hT (t := t) ops.size 0 (by omega) fun k _ h2 hk he => by
    have := huniq hi (by omega) hdi he
    subst this
    have := rc4 hk
    rw [hna] at this
    cases this
   rw [Nat.zero_add] at h1 h2
   rw [h1, hT.t0, h2, hT.u0]
   rcases Nat.lt_or_ge t (T ops.size).a.length with hlt | hge
   ·rw [Rb2 ⟨i, hi, hdi, hxi⟩ hlt]
    rw [(yb5 hD hT ops.size (Nat.le_refl _)).2] at hlt
    rw [List.getElem?_eq_getElem hlt]
    rfl
   ·rw [List.getElem?_eq_none (by rw [← (yb5 hD hT ops.size (Nat.le_refl _)).2]; exact hge), List.getElem?_eq_none (by rw [Ka0]; exact hge)]
 ·rw [Ka1]
  ·exact hend fun k _ h2 he => hw ⟨k, h2, he⟩
  ·rintro ⟨k, h1, h2, _⟩
   exact hw ⟨k, h1, h2⟩
end
end Go.Ev
