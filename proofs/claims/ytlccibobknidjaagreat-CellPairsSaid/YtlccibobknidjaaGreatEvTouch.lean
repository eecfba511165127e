/- Own work: a part of the proof. -/
import Derived.Test.YtlccibobknidjaaGreatEvRun
set_option linter.unusedVariables false
set_option linter.unusedSimpArgs false
set_option linter.unnecessarySimpa false
set_option linter.unusedSectionVars false
namespace Go.Ev
open Go
section
variable {W : Nat → Prop} {ρ ρ0 : Rho} {H H0 : List b8} {F F0 : Fz} {w w0 : World} {E : Env}
theorem nd2 {P : Program} {t : TypeId} {p z : b7} {p' : Value} {cs : List b7} (hH : s5 W ρ H F w) (hy : z8 ρ H F w p p') (hu : P.underlying t ≠ none) (hl : Ev.loadCells H p (szT P t) = some cs) (h1 : ib3 (agT P t) cs = some z) :
  ∃ ad z', p' = .pointer (some ad) ∧ (loadVar t ad).run P w = .ok z' w ∧ W0 ρ H F w z z' := by
 obtain ⟨ad, vs, e, hs, hcl, hvl, hw, hr⟩ := Ib6 hH hy hl
 have hti : ∃ i, P.info? t = some i ∧ i.size = szT P t := by
  cases hd : P.underlying t with
  | none => exact absurd hd hu
  | some d => exact Ya4 hd
 obtain ⟨ti, hi1, hi2⟩ := hti
 rcases Eb3 h1 with ⟨hag, rfl⟩ | ⟨hag, z', rfl, rfl⟩
 ·refine ⟨ad, .agg vs.toArray, e, ?_, .agg cs vs.toArray (by simp [hcl, hvl]) fun i x x' hx hx' => .mem (hr i x x' hx (by simpa using hx'))⟩
  have hlc : (Go.loadCells ad (szT P t)).run P w = .ok vs.toArray w := by
   rw [← hvl]
   refine run_loadCells_list (P := P) w ad vs fun j v hj => ?_
   have hj' : j < szT P t := by rw [← hvl]; exact (List.getElem?_eq_some_iff.1 hj).1
   rw [S9 (hs (by omega))]
   exact hw j v hj
  simp [loadVar, Xa5 hag, sizeOf, typeInfo, hi1, hi2, hlc]
 ·have h1 : szT P t = 1 := by simpa using hcl.symm
  have hv1 : vs.length = 1 := by omega
  obtain ⟨v, rfl⟩ : ∃ v, vs = [v] := by
   match vs, hv1 with
   | [v], _ => exact ⟨v, rfl⟩
  have hc := hw 0 v rfl
  have hsp := hs (by omega)
  have hcell : w.cell? ad = some v := by
   obtain ⟨b, of, sp⟩ := ad
   simp at hsp
   subst hsp
   simpa using hc
  exact ⟨ad, v, e, by simp [loadVar, Ja8 hag hu, hcell], .cell (.mem (hr 0 _ v rfl rfl))⟩
def Sd0 (tmps : Array Value) : ResultVar → Sem Value
 | .tmp t => pure (tmps.getD t undef)
 | .cell a t => do loadVar t (← asAddr (tmps.getD a undef))
noncomputable def qc6 (P : Program) (w : World) (tmps : Array Value) (r : ResultVar) : Value :=
 match r with
 | .tmp t => tmps.getD t undef
 | .cell a t => match (do loadVar t (← asAddr (tmps.getD a undef)) : Sem Value).run P w with
  | .ok v _ => v
  | _ => undef
theorem Ad5 {P : Program} {a : List b7} {tmps : Array Value} (hH : s5 W ρ H F w) (hA : la1 ρ H F w a tmps) {r : ResultVar} (hr : Yc1 P r = true) {x : b7} (hx : Ra6 a H (pc1 P r) = some x) :
  (Sd0 tmps r).run P w = .ok (qc6 P w tmps r) w ∧ W0 ρ H F w x (qc6 P w tmps r) := by
 have hat : ∀ {t : Nat} {y : b7}, a[t]? = some y → z8 ρ H F w y (tmps.getD t undef) := fun {t y} hy => by
  have hlt := (List.getElem?_eq_some_iff.1 hy).1
  have hlt' : t < tmps.size := hA.1 ▸ hlt
  have := hA.2 t y _ hy (Array.getElem?_eq_getElem hlt')
  simpa [Array.getD, hlt'] using this
 cases r with
 | tmp t =>
  simp only [pc1, Ra6, y6] at hx
  cases hy : a[t]? with
  | none => simp [hy] at hx
  | some y =>
   rw [hy] at hx
   have hxy : y = x ∧ ∀ l, y ≠ .tup l := by
    cases y <;> first | (simp at hx; done) | (injection hx with hx; exact ⟨hx, fun _ e => by cases e⟩)
   obtain ⟨rfl, hnt⟩ := hxy
   refine ⟨rfl, ?_⟩
   show W0 ρ H F w y (tmps.getD t undef)
   have h := hat hy
   revert h
   generalize tmps.getD t undef = u
   intro h
   cases h with
   | val h => exact h
   | tup xs => exact absurd rfl (hnt xs)
 | cell p t =>
  simp only [pc1, Ra6, y6] at hx
  cases hy : a[p]? with
  | none => simp [hy] at hx
  | some y =>
  simp only [hy] at hx
  cases hl : Ev.loadCells H y (szT P t) with
  | none => simp [hl] at hx
  | some cs =>
  simp only [hl] at hx
  have hu : P.underlying t ≠ none := fun h => by simp [Yc1, h] at hr
  obtain ⟨ad, z', e, h1, h2⟩ := nd2 hH (hat hy) hu hl hx
  have hrun : (do loadVar t (← asAddr (tmps.getD p undef)) : Sem Value).run P w = .ok z' w := by
   rw [e]
   simp [asAddr, h1]
  have hv : qc6 P w tmps (.cell p t) = z' := by
   simp only [qc6, hrun]
  rw [hv]
  exact ⟨hrun, h2⟩
theorem qc7 {fn : Func} {a : List b7} {tmps : Array Value} {P : Program} (hH : s5 W ρ H F w) (hA : la1 ρ H F w a tmps) (hr : fn.results.toList.all (Yc1 P) = true) {l : List b7} (hl : Ma9 (Ra6 a H) (fn.results.toList.map (pc1 P)) = some l) :
  ∃ v, (results fn tmps).run P w = .ok v w ∧ z8 ρ H F w (ib5 l) v := by
 obtain ⟨hlen, hat⟩ := Ic3 hl
 simp only [List.length_map, Array.length_toList] at hlen
 have hone : ∀ (i : Nat) r, fn.results.toList[i]? = some r → ∃ x, l[i]? = some x ∧ (Sd0 tmps r).run P w = .ok (qc6 P w tmps r) w ∧ W0 ρ H F w x (qc6 P w tmps r) := fun i r hri => by
  obtain ⟨x, h1, h2⟩ := hat i (pc1 P r) (by simp only [List.getElem?_map, hri, Option.map_some])
  exact ⟨x, h2, Ad5 hH hA (List.all_eq_true.1 hr r (List.mem_of_getElem? hri)) h1⟩
 have hm : (fn.results.mapM (Sd0 tmps)).run P w = .ok (fn.results.map (qc6 P w tmps)) w := by
  refine Qb2 _ _ w fn.results fun r hrm => ?_
  obtain ⟨i, hi⟩ := List.getElem?_of_mem (Array.mem_toList_iff.2 hrm)
  obtain ⟨x, _, h2, _⟩ := hone i r hi
  exact h2
 have hrun : (results fn tmps).run P w = .ok (if h : (fn.results.map (qc6 P w tmps)).size = 1 then (fn.results.map (qc6 P w tmps))[0] else .tuple (fn.results.map (qc6 P w tmps))) w := by
  have e : results fn tmps = (do
    let vs ← fn.results.mapM (Sd0 tmps)
    pure (if h : vs.size = 1 then vs[0] else .tuple vs)) := by
   unfold results
   congr 1
  rw [e, Sem.run_bind, hm]
  rfl
 refine ⟨_, hrun, ?_⟩
 by_cases h1 : fn.results.size = 1
 ·have hl1 : l.length = 1 := hlen.trans h1
  obtain ⟨x, rfl⟩ : ∃ x, l = [x] := by
   match l, hl1 with
   | [x], _ => exact ⟨x, rfl⟩
  have hlt : 0 < fn.results.toList.length := by simp [h1]
  obtain ⟨x', k1, _, k3⟩ := hone 0 _ (List.getElem?_eq_getElem hlt)
  simp at k1
  subst k1
  rw [dif_pos (by simpa using h1)]
  simp at k3 ⊢
  exact .val k3
 ·rw [dif_neg (by simpa using h1)]
  have e : ib5 l = .tup l := by
   match l, hlen with
   | [], _ => rfl
   | [x], h => exact absurd h.symm h1
   | _ :: _ :: _, _ => rfl
  rw [e]
  refine .tup l _ (by simp [hlen]) fun i x x' hx hx' => ?_
  have hi : i < fn.results.toList.length := by
   have := (List.getElem?_eq_some_iff.1 hx).1
   simpa [hlen] using this
  obtain ⟨y, k1, _, k3⟩ := hone i _ (List.getElem?_eq_getElem hi)
  have : y = x := Option.some.inj (k1.symm.trans hx)
  subst this
  have : x' = qc6 P w tmps fn.results.toList[i] := by
   simp only [Array.getElem?_map, Option.map_eq_some_iff] at hx'
   obtain ⟨r, hr1, hr2⟩ := hx'
   rw [← hr2]
   congr 1
   have hr3 : fn.results.toList[i]? = some r := by simpa using hr1
   exact (Option.some.inj ((List.getElem?_eq_getElem hi).symm.trans hr3)).symm
  rw [this]
  exact k3
theorem Gd7 {f : FuncId} {fn : Func} {pf : PFn} (hf : E.P.funcs[f]? = some fn) (hname : fn.name ≠ "runtime.NumGoroutine") (hc : nc4 E.P fn = some pf) (hcalls : ∀ f, i5 E.P E.G f (E.call f)) (hdraw : nd0 E) :
  i5 E.P E.G f (j7 E pf) := by
 intro args blks r out he W ρ F w args' hH hlen hargs hG
 unfold nc4 at hc
 cases hb : fn.body with
 | none => simp [hb] at hc
 | some c =>
 simp only [hb] at hc
 split at hc
 case isFalse => cases hc
 rename_i hres
 injection hc with hc
 subst hc
 refine ⟨⟨fn, hf, by simp [hb], hname⟩, ?_⟩
 unfold j7 at he
 rw [l6, C0, l6] at he
 obtain ⟨⟨x, s1⟩, h1, h2⟩ := DT.run_bind_some he
 simp only at h2 h1
 refine calls_of_wp hf hb ?_
 have hI : Inv W ρ blks F w ⟨args ++ List.replicate (fn.ntmps - args.length) (.v (.tuple #[])), blks⟩ { tmps := args'.toArray ++ Array.replicate (fn.ntmps - args'.toArray.size) undef, defers := [] } w := by
  refine ⟨rfl, ρ, F, .refl, hH, by simp [hlen], fun i y y' hy hy' => ?_⟩
  simp only at hy hy'
  rcases Nat.lt_or_ge i args.length with hi | hi
  ·rw [List.getElem?_append_left hi] at hy
   rw [Array.getElem?_append_left (by simpa [← hlen] using hi)] at hy'
   exact hargs i y y' hy (by simpa using hy')
  ·rw [List.getElem?_append_right hi] at hy
   rw [Array.getElem?_append_right (by simpa [← hlen] using hi)] at hy'
   rw [List.getElem?_replicate] at hy
   rw [Array.getElem?_replicate] at hy'
   split at hy
   ·split at hy'
    ·injection hy with hy; injection hy' with hy'
     subst hy hy'
     exact .ofv _
    ·cases hy'
   ·cases hy
 have hfin : ∀ (ac' : Act) (w' : World), Inv W ρ blks F w s1 ac' w' → (match x with | .exit _ => False | _ => True) → (match Ma9 (Ra6 s1.a s1.H) (fn.results.toList.map (pc1 E.P)) with
    | some l => wb7 blks.length s1.H (ib5 l)
    | none => .fail).run = some (r, out) → ac'.defers = [] ∧ ∃ v, (results fn ac'.tmps).run E.P w' = .ok v w' ∧ ∃ r', Ending.returned v = .returned r' ∧ L9 W ρ blks F w r out r' w' := fun ac' w' hI' _ hr => by
  obtain ⟨hd, ρ1, F1, a1, a2, a3⟩ := hI'
  cases hm : Ma9 (Ra6 s1.a s1.H) (fn.results.toList.map (pc1 E.P)) with
  | none => rw [hm] at hr; cases hr
  | some l =>
  rw [hm] at hr
  obtain ⟨v, k1, k2⟩ := qc7 a2 a3 hres hm
  refine ⟨hd, v, k1, v, rfl, ?_⟩
  simp only [wb7] at hr
  cases ht : oc8 blks.length s1.H (List.range blks.length) (ib5 l) with
  | mk z roots =>
  simp only [ht] at hr
  cases hb2 : xa4 blks.length s1.H 0 roots with
  | none => simp [hb2] at hr
  | some H2 =>
  simp only [hb2] at hr
  have hr' : some (z, H2) = some (r, out) := hr
  injection hr' with hr'; injection hr' with e1 e2; subst e1 e2
  obtain ⟨m1, _, m3⟩ := qc3 (TOk.start _) ht
  exact ⟨_, F1, Qb7 m1 hb2 a1, Eb7 m1 a2 hb2, Pc5 hb2 m3 k2⟩
 refine nd1 hG hcalls hdraw ((Rd9 E.P c).note _ _ _ _) _ x s1 h1 _ w _ hI fun ac' w' hI' => ?_
 cases x with
 | normal => exact hfin ac' w' hI' trivial h2
 | ret => exact hfin ac' w' hI' trivial h2
 | exit id => cases h2
end
end Go.Ev
namespace Go.Ev
open Go
structure D1 (D : Nat → Prop) (H10 H20 H1 H2 : List b8) : Prop where
 lenq : H1.length = H2.length
 same : ∀ id, ¬ D id → H1[id]? = H2[id]?
 dead : ∀ (id : Nat) b, D id → H1[id]? = some b → b.dead = true
 at1 : ∀ id, D id → H1[id]? = H10[id]?
 at2 : ∀ id, D id → H2[id]? = H20[id]?
 bound : ∀ id, D id → id < H1.length
section
variable {D : Nat → Prop} {H10 H20 H1 H2 : List b8} {E : Env} {a : List b7}
theorem D1.blkAt (h : D1 D H10 H20 H1 H2) {id g : Nat} {b : b8} (hb : Ev.blkAt H1 id g = some b) : ¬ D id ∧ Ev.blkAt H2 id g = some b := by
 obtain ⟨h1, h2, h3⟩ := r9 hb
 have hD : ¬ D id := fun hD => by rw [h.dead id b hD h1] at h2; cases h2
 refine ⟨hD, ?_⟩
 have hs := h.same id hD
 unfold Ev.blkAt at hb ⊢
 rw [y6] at hb ⊢
 rw [← hs]
 exact hb
theorem D1.setAt (h : D1 D H10 H20 H1 H2) {id : Nat} (hD : ¬ D id) (b : b8) : D1 D H10 H20 (Ev.setAt H1 id b) (Ev.setAt H2 id b) := by
 rw [z6, z6]
 refine ⟨by simp [h.lenq], fun i hi => ?_, fun i c hi hc => ?_, fun i hi => ?_, fun i hi => ?_, fun i hi => by simpa using h.bound i hi⟩
 ·by_cases e : id = i
  ·subst e
   rcases Nat.lt_or_ge id H1.length with hl | hl
   ·rw [List.getElem?_set_self hl, List.getElem?_set_self (h.lenq ▸ hl)]
   ·rw [List.getElem?_eq_none (by simpa using hl), List.getElem?_eq_none (by simpa using h.lenq ▸ hl)]
  ·rw [List.getElem?_set_ne e, List.getElem?_set_ne e]; exact h.same i hi
 all_goals
  have e : id ≠ i := fun e => hD (e ▸ hi)
 ·rw [List.getElem?_set_ne e] at hc; exact h.dead i c hi hc
 ·rw [List.getElem?_set_ne e]; exact h.at1 i hi
 ·rw [List.getElem?_set_ne e]; exact h.at2 i hi
theorem D1.app (h : D1 D H10 H20 H1 H2) (l : List b8) : D1 D H10 H20 (Ev.app H1 l) (Ev.app H2 l) := by
 rw [C0, C0]
 refine ⟨by simp [h.lenq], fun i hi => ?_, fun i c hi hc => ?_, fun i hi => ?_, fun i hi => ?_, fun i hi => by have := h.bound i hi; simp; omega⟩
 ·rcases Nat.lt_or_ge i H1.length with hl | hl
  ·rw [List.getElem?_append_left hl, List.getElem?_append_left (h.lenq ▸ hl)]; exact h.same i hi
  ·rw [List.getElem?_append_right hl, List.getElem?_append_right (h.lenq ▸ hl), h.lenq]
 all_goals
  have hl := h.bound i hi
 ·rw [List.getElem?_append_left hl] at hc; exact h.dead i c hi hc
 ·rw [List.getElem?_append_left hl]; exact h.at1 i hi
 ·rw [List.getElem?_append_left (h.lenq ▸ hl)]; exact h.at2 i hi
theorem D1.modAt (h : D1 D H10 H20 H1 H2) {id : Nat} (hD : ¬ D id) (f : b8 → b8) : D1 D H10 H20 (Ev.modAt H1 id f) (Ev.modAt H2 id f) := by
 have hs := h.same id hD
 unfold Ev.modAt
 rw [y6, y6, ← hs]
 cases H1[id]? with
 | none => exact h
 | some b => exact h.setAt hD _
theorem D1.disown (h : D1 D H10 H20 H1 H2) {id : Nat} (hD : ¬ D id) : D1 D H10 H20 (Ev.disown H1 id) (Ev.disown H2 id) := h.modAt hD _
theorem D1.freezeCell (h : D1 D H10 H20 H1 H2) {x y : b7} {H1' : List b8} (hf : Ev.freezeCell H1 x = some (y, H1')) : ∃ H2', Ev.freezeCell H2 x = some (y, H2') ∧ D1 D H10 H20 H1' H2' := by
 unfold Ev.freezeCell at hf ⊢
 cases x with
 | v u =>
  simp only at hf ⊢
  cases ho : Bc7 u with
  | false => simp [ho] at hf
  | true =>
   simp only [ho] at hf ⊢
   injection hf with hf; injection hf with e1 e2; subst e1 e2
   exact ⟨_, rfl, h⟩
 | tree es n get =>
  simp only at hf ⊢
  injection hf with hf; injection hf with e1 e2; subst e1 e2
  exact ⟨_, rfl, h⟩
 | fn f caps =>
  cases caps with
  | nil =>
   simp only at hf ⊢
   injection hf with hf; injection hf with e1 e2; subst e1 e2
   exact ⟨_, rfl, h⟩
  | cons => cases hf
 | sl id off n g =>
  simp only at hf ⊢
  cases hb : Ev.blkAt H1 id g with
  | none => simp [hb] at hf
  | some b =>
   obtain ⟨hD, hb2⟩ := h.blkAt hb
   simp only [hb, hb2] at hf ⊢
   injection hf with hf; injection hf with e1 e2; subst e1 e2
   exact ⟨_, rfl, h.disown hD⟩
 | _ => cases hf
theorem D1.freezeCells : ∀ {H1 H2 : List b8} {xs ys : List b7} {H1' : List b8}, D1 D H10 H20 H1 H2 → Ev.freezeCells H1 xs = some (ys, H1') → ∃ H2', Ev.freezeCells H2 xs = some (ys, H2') ∧ D1 D H10 H20 H1' H2'
 | H1, H2, [], ys, H1', h, hf => by
  simp only [Ev.freezeCells] at hf ⊢
  injection hf with hf; injection hf with e1 e2; subst e1 e2
  exact ⟨_, rfl, h⟩
 | H1, H2, x :: xs, ys, H1', h, hf => by
  simp only [Ev.freezeCells] at hf ⊢
  cases h1 : Ev.freezeCell H1 x with
  | none => simp [h1] at hf
  | some yh =>
  obtain ⟨y, Ha⟩ := yh
  obtain ⟨Hb, h2, h3⟩ := h.freezeCell h1
  simp only [h1, h2] at hf ⊢
  cases h4 : Ev.freezeCells Ha xs with
  | none => simp [h4] at hf
  | some lh =>
  obtain ⟨l, Hc⟩ := lh
  obtain ⟨Hd, h5, h6⟩ := D1.freezeCells h3 h4
  simp only [h4, h5] at hf ⊢
  injection hf with hf; injection hf with e1 e2; subst e1 e2
  exact ⟨_, rfl, h6⟩
theorem D1.elemsOf (h : D1 D H10 H20 H1 H2) {es : Nat} {x : b7} {l : List (List b7)} (hf : Ev.elemsOf es H1 x = some l) : Ev.elemsOf es H2 x = some l := by
 unfold Ev.elemsOf at hf ⊢
 cases x with
 | sl id off n g =>
  simp only at hf ⊢
  cases hb : Ev.blkAt H1 id g with
  | none => simp [hb] at hf
  | some b =>
   obtain ⟨_, hb2⟩ := h.blkAt hb
   simp only [hb, hb2] at hf ⊢
   exact hf
 | v u =>
  cases u with
  | slice ad n c => cases ad <;> cases n <;> cases c <;> exact hf
  | _ => exact hf
 | _ => exact hf
theorem D1.capArg (h : D1 D H10 H20 H1 H2) {p : pa3} {x : b7} {r : b7 × pa3} (hf : Ev.capArg H1 p x = some r) : Ev.capArg H2 p x = some r := by
 unfold Ev.capArg at hf ⊢
 cases x with
 | ptr id i c g =>
  simp only at hf ⊢
  cases hb : Ev.blkAt H1 id g with
  | none => simp [hb] at hf
  | some b =>
   obtain ⟨_, hb2⟩ := h.blkAt hb
   simp only [hb, hb2] at hf ⊢
   exact hf
 | sl id off n g =>
  simp only at hf ⊢
  cases hb : Ev.blkAt H1 id g with
  | none => simp [hb] at hf
  | some b =>
   obtain ⟨_, hb2⟩ := h.blkAt hb
   simp only [hb, hb2] at hf ⊢
   exact hf
 | fn f caps => cases caps <;> exact hf
 | _ => exact hf
theorem D1.capArgs (h : D1 D H10 H20 H1 H2) : ∀ {xs : List b7} {p : pa3} {r : List b7 × pa3}, Ev.capArgs H1 p xs = some r → Ev.capArgs H2 p xs = some r
 | [], p, r, hf => hf
 | x :: xs, p, r, hf => by
  simp only [Ev.capArgs] at hf ⊢
  cases h1 : Ev.capArg H1 p x with
  | none => simp [h1] at hf
  | some yq =>
  rw [h.capArg h1]
  simp only [h1] at hf ⊢
  cases h2 : Ev.capArgs H1 yq.2 xs with
  | none => simp [h2] at hf
  | some lq =>
  rw [D1.capArgs h h2]
  simp only [h2] at hf ⊢
  exact hf
theorem D1.prepArg (h : D1 D H10 H20 H1 H2) {own : Bool} {p : pa3} {x : b7} {r : b7 × pa3} (hf : Ev.prepArg H1 own p x = some r) : Ev.prepArg H2 own p x = some r := by
 unfold Ev.prepArg at hf ⊢
 cases x with
 | v u => exact hf
 | sl id off n g =>
  cases own with
  | false => exact h.capArg hf
  | true =>
   simp only at hf ⊢
   cases hb : Ev.blkAt H1 id g with
   | none => simp [hb] at hf
   | some b =>
    obtain ⟨_, hb2⟩ := h.blkAt hb
    simp only [hb, hb2] at hf ⊢
    exact hf
 | agg cs =>
  simp only at hf ⊢
  cases h1 : Ev.capArgs H1 p cs with
  | none => simp [h1] at hf
  | some lq =>
  rw [h.capArgs h1]
  simp only [h1] at hf ⊢
  exact hf
 | fn f cs =>
  simp only at hf ⊢
  cases h1 : Ev.capArgs H1 p cs with
  | none => simp [h1] at hf
  | some lq =>
  rw [h.capArgs h1]
  simp only [h1] at hf ⊢
  exact hf
 | _ => exact h.capArg hf
theorem D1.prepArgs (h : D1 D H10 H20 H1 H2) {own : Nat → Bool} : ∀ {xs : List b7} {p : pa3} {k : Nat} {r : List b7 × pa3}, Ev.prepArgs H1 own p k xs = some r → Ev.prepArgs H2 own p k xs = some r
 | [], p, k, r, hf => hf
 | x :: xs, p, k, r, hf => by
  simp only [Ev.prepArgs] at hf ⊢
  cases h1 : Ev.prepArg H1 (own k) p x with
  | none => simp [h1] at hf
  | some yq =>
  rw [h.prepArg h1]
  simp only [h1] at hf ⊢
  cases h2 : Ev.prepArgs H1 own yq.2 (k + 1) xs with
  | none => simp [h2] at hf
  | some lq =>
  rw [D1.prepArgs h h2]
  simp only [h2] at hf ⊢
  exact hf
theorem D1.blksAt (h : D1 D H10 H20 H1 H2) : ∀ {roots : List Nat} {r : List b8}, (∀ id ∈ roots, ¬ D id) → Ev.blksAt H1 roots = some r → Ev.blksAt H2 roots = some r
 | [], r, _, hf => hf
 | id :: roots, r, hr, hf => by
  simp only [Ev.blksAt, y6] at hf ⊢
  rw [← h.same id (hr id (by simp))]
  cases hb : H1[id]? with
  | none => simp [hb] at hf
  | some b =>
  simp only [hb] at hf ⊢
  cases h2 : Ev.blksAt H1 roots with
  | none => simp [h2] at hf
  | some l =>
  rw [h.blksAt (fun i hi => hr i (by simp [hi])) h2]
  simp only [h2] at hf ⊢
  exact hf
theorem D1.putBack : ∀ {roots : List Nat} {H1 H2 out H1' : List b8}, D1 D H10 H20 H1 H2 → (∀ id ∈ roots, ¬ D id) → Ev.putBack H1 roots out = some H1' → ∃ H2', Ev.putBack H2 roots out = some H2' ∧ D1 D H10 H20 H1' H2'
 | [], H1, H2, [], H1', h, _, hf => by
  simp only [Ev.putBack] at hf ⊢
  injection hf with hf; subst hf
  exact ⟨_, rfl, h⟩
 | [], H1, H2, c :: out, H1', h, _, hf => by
  simp only [Ev.putBack] at hf ⊢
  injection hf with hf; subst hf
  exact ⟨_, rfl, h.app _⟩
 | id :: roots, H1, H2, [], H1', h, _, hf => by simp [Ev.putBack] at hf
 | id :: roots, H1, H2, c :: out, H1', h, hr, hf => by
  simp only [Ev.putBack] at hf ⊢
  exact D1.putBack (h.modAt (hr id (by simp)) _) (fun i hi => hr i (by simp [hi])) hf
theorem D1.settle (h : D1 D H10 H20 H1 H2) (held : Bool) : ∀ {lent : List Nat}, (∀ id ∈ lent, ¬ D id) → D1 D H10 H20 (Ev.settle lent held H1) (Ev.settle lent held H2)
 | [], _ => h
 | id :: lent, hr => by
  have ih := D1.settle h held (lent := lent) fun i hi => hr i (by simp [hi])
  rw [gb8, gb8]
  split
  ·exact ih.disown (hr id (by simp))
  ·exact ih
theorem D1.backId (h : D1 D H10 H20 H1 H2) {roots : List Nat} (hr : ∀ id ∈ roots, ¬ D id) (j g : Nat) : Ev.backId H1 roots j g = Ev.backId H2 roots j g := by
 unfold Ev.backId
 rw [y6]
 cases hj : roots[j]? with
 | none => simp only [l6, h.lenq]
 | some id => simp only [y6, h.same id (hr id (List.mem_of_getElem? hj))]
theorem D1.backC (h : D1 D H10 H20 H1 H2) {roots : List Nat} (hr : ∀ id ∈ roots, ¬ D id) : Ev.backC H1 roots = Ev.backC H2 roots := by
 funext x
 cases x with
 | ptr => simp only [Ev.backC, h.backId hr]
 | sl => simp only [Ev.backC, h.backId hr]
 | _ => rfl
theorem D1.backVal1 (h : D1 D H10 H20 H1 H2) {roots : List Nat} (hr : ∀ id ∈ roots, ¬ D id) : Ev.backVal1 H1 roots = Ev.backVal1 H2 roots := by
 funext x
 unfold Ev.backVal1
 rw [h.backC hr]
theorem D1.backVal (h : D1 D H10 H20 H1 H2) {roots : List Nat} (hr : ∀ id ∈ roots, ¬ D id) : Ev.backVal H1 roots = Ev.backVal H2 roots := by
 funext x
 unfold Ev.backVal
 rw [h.backVal1 hr]
theorem D1.callA (h : D1 D H10 H20 H1 H2) {f : FuncId} {args : List b7} {x : b7} {H1' : List b8} (he : (Ev.callA E f args H1).run = some (x, H1')) : ∃ H2', (Ev.callA E f args H2).run = some (x, H2') ∧ D1 D H10 H20 H1' H2' := by
 unfold Ev.callA at he ⊢
 cases hpr : Ev.prepArgs H1 (E.own f) { roots := [], lent := [] } 0 args with
 | none => rw [hpr] at he; cases he
 | some q =>
 obtain ⟨ub2, p⟩ := q
 obtain ⟨hp, _, hl2, hPr⟩ := xb7 (H := H1) (p := { roots := [], lent := [] }) ⟨List.nodup_nil, fun id h => by simp at h, fun id h => by simp at h⟩ hpr
 have hroots : ∀ id ∈ p.roots, ¬ D id := fun id hid hD => by
  obtain ⟨b, h1, h2⟩ := hp.live id hid
  rw [h.dead id b hD h1] at h2; cases h2
 have hlent : ∀ id ∈ p.lent, ¬ D id := fun id hid hD => by
  obtain ⟨b, h1, h2⟩ := hp.lent id hid
  rw [h.dead id b hD h1] at h2; cases h2
 rw [h.prepArgs hpr]
 rw [hpr] at he
 simp only at he ⊢
 cases hbl : Ev.blksAt H1 p.roots with
 | none => rw [hbl] at he; cases he
 | some blks =>
 rw [h.blksAt hroots hbl]
 cases hap : Ya3 p.lent p.roots with
 | false => rw [hbl, hap] at he; cases he
 | true =>
 rw [hbl, hap] at he
 simp only at he ⊢
 obtain ⟨⟨r, out⟩, hc, he⟩ := DT.run_bind_some he
 simp only at he
 cases hpb : Ev.putBack H1 p.roots out with
 | none => rw [hpb] at he; cases he
 | some H1b =>
 obtain ⟨H2b, k1, k2⟩ := D1.putBack h hroots hpb
 rw [hpb] at he
 simp only at he
 have he' : some (Ev.backVal H1 p.roots r, Ev.settle p.lent (ua8 r || out.any wb2) H1b) = some (x, H1') := he
 injection he' with he'; injection he' with e1 e2; subst e1 e2
 refine ⟨Ev.settle p.lent (ua8 r || out.any wb2) H2b, ?_, k2.settle _ hlent⟩
 rw [DT.run_bind, hc]
 simp only [Option.bind_some, k1]
 rw [h.backVal hroots]
 rfl
theorem D1.appendA (h : D1 D H10 H20 H1 H2) {et es bytes : Nat} {s y x : b7} {H1' : List b8} (he : (Ev.appendA et es bytes s y H1).run = some (x, H1')) : ∃ H2', (Ev.appendA et es bytes s y H2).run = some (x, H2') ∧ D1 D H10 H20 H1' H2' := by
 unfold Ev.appendA at he ⊢
 cases hel : Ev.elemsOf es H1 y with
 | none => rw [hel] at he; cases he
 | some news =>
 rw [h.elemsOf hel]
 rw [hel] at he
 simp only at he ⊢
 have hnil : ∀ {H1' : List b8}, (DT.ite (Nat.beq (len news) 0) (.ret (b7.v (.slice none 0 0), H1))
    (.guard (Nat.ble (len news * bytes) room) (.ret (.sl (len H1) 0 (len news) 0, la0 H1 et es news)))).run = some (x, H1') →
   ∃ H2', (DT.ite (Nat.beq (len news) 0) (.ret (b7.v (.slice none 0 0), H2))
    (.guard (Nat.ble (len news * bytes) room) (.ret (.sl (len H2) 0 (len news) 0, la0 H2 et es news)))).run = some (x, H2') ∧ D1 D H10 H20 H1' H2' := fun {H1'} he => by
  rcases DT.run_ite_some he with ⟨h1, h2⟩ | ⟨h1, h2⟩
  ·rw [h1]
   simp only [DT.run_ret] at h2
   injection h2 with h2; injection h2 with e1 e2; subst e1 e2
   exact ⟨_, rfl, h⟩
  ·obtain ⟨h3, h4⟩ := DT.run_guard_some h2
   rw [h1]
   simp only [DT.run_ret] at h4
   injection h4 with h4; injection h4 with e1 e2; subst e1 e2
   have hl : len H2 = len H1 := by rw [l6, l6, h.lenq]
   refine ⟨la0 H2 et es news, ?_, h.app _⟩
   rw [hl]
   simp only [DT.run_ite, DT.guard, h3, DT.run_ret, if_true, Bool.false_eq_true, if_false]
 cases s with
 | v u =>
  cases u with
  | slice ad n c =>
   cases ad with
   | some _ => cases he
   | none =>
    cases n with
    | succ _ => cases he
    | zero =>
     cases c with
     | succ _ => cases he
     | zero => exact hnil he
  | _ => cases he
 | sl id off n g =>
  simp only at he ⊢
  cases hb : Ev.blkAt H1 id g with
  | none => rw [hb] at he; cases he
  | some b =>
  obtain ⟨hD, hb2⟩ := h.blkAt hb
  rw [hb] at he
  rw [hb2]
  simp only at he ⊢
  split at he
  ·rcases DT.run_ite_some he with ⟨h1, h2⟩ | ⟨h1, h2⟩
   ·rw [h1]
    simp only [DT.run_ret] at h2
    injection h2 with h2; injection h2 with e1 e2; subst e1 e2
    exact ⟨_, rfl, h⟩
   ·obtain ⟨h3, h4⟩ := DT.run_guard_some h2
    rw [h1]
    simp only [DT.run_ret] at h4
    injection h4 with h4; injection h4 with e1 e2; subst e1 e2
    refine ⟨_, ?_, h.setAt hD _⟩
    simp only [DT.run_ite, DT.guard, h3, DT.run_ret, if_true, Bool.false_eq_true, if_false]
  ·cases he
 | _ => cases he
theorem D1.copyA (h : D1 D H10 H20 H1 H2) {es : Nat} {d s x : b7} {H1' : List b8} (he : Ev.copyA es d s H1 = some (x, H1')) : ∃ H2', Ev.copyA es d s H2 = some (x, H2') ∧ D1 D H10 H20 H1' H2' := by
 unfold Ev.copyA at he ⊢
 cases d with
 | sl id off n g =>
  simp only at he ⊢
  cases hb : Ev.blkAt H1 id g with
  | none => rw [hb] at he; cases he
  | some b =>
  obtain ⟨hD, hb2⟩ := h.blkAt hb
  rw [hb] at he
  rw [hb2]
  simp only at he ⊢
  cases hel : Ev.elemsOf es H1 s with
  | none => rw [hel] at he; cases he
  | some news =>
  rw [h.elemsOf hel]
  rw [hel] at he
  simp only at he ⊢
  split at he
  ·injection he with he; injection he with e1 e2; subst e1 e2
   exact ⟨_, rfl, h.setAt hD _⟩
  ·cases he
 | _ => cases he
theorem D1.apreA (h : D1 D H10 H20 H1 H2) {es : Nat} {d s x : b7} {H1' : List b8} (he : (Ev.apreA es d s H1).run = some (x, H1')) : ∃ H2', (Ev.apreA es d s H2).run = some (x, H2') ∧ D1 D H10 H20 H1' H2' := by
 unfold Ev.apreA at he ⊢
 cases hel : Ev.elemsOf es H1 s with
 | none => rw [hel] at he; cases he
 | some news =>
 rw [h.elemsOf hel]
 rw [hel] at he
 simp only at he ⊢
 split at he
 ·obtain ⟨h0, he⟩ := DT.run_guard_some he
  simp only [DT.run_ret] at he
  injection he with he; injection he with e1 e2; subst e1 e2
  refine ⟨H2, ?_, h⟩
  simp only [DT.guard, DT.run_ite, h0, DT.run_ret, if_true]
 ·rename_i id off n g
  cases hb : Ev.blkAt H1 id g with
  | none => rw [hb] at he; cases he
  | some b =>
  obtain ⟨hD, hb2⟩ := h.blkAt hb
  rw [hb] at he
  rw [hb2]
  simp only at he ⊢
  split at he
  ·rename_i hc
   obtain ⟨h0, he⟩ := DT.run_guard_some he
   simp only [DT.run_ret] at he
   injection he with he; injection he with e1 e2; subst e1 e2
   refine ⟨_, ?_, h.setAt hD _⟩
   simp only [hc, DT.guard, DT.run_ite, h0, DT.run_ret, if_true]
  ·cases he
 ·cases he
theorem D1.clrA (h : D1 D H10 H20 H1 H2) {es : Nat} {z : List b7} {d x : b7} {H1' : List b8} (he : Ev.clrA es z d H1 = some (x, H1')) : ∃ H2', Ev.clrA es z d H2 = some (x, H2') ∧ D1 D H10 H20 H1' H2' := by
 unfold Ev.clrA at he ⊢
 split at he
 ·injection he with he; injection he with e1 e2; subst e1 e2
  exact ⟨H2, rfl, h⟩
 ·rename_i id off n g
  cases hb : Ev.blkAt H1 id g with
  | none => rw [hb] at he; cases he
  | some b =>
  obtain ⟨hD, hb2⟩ := h.blkAt hb
  rw [hb] at he
  simp only [hb2]
  simp only at he ⊢
  split at he
  ·rename_i hc
   injection he with he; injection he with e1 e2; subst e1 e2
   exact ⟨_, by simp only [hc], h.setAt hD _⟩
  ·cases he
 ·cases he
def nc7 : PO → Bool
 | .alloc _ | .box _ | .bslice .. | .mksl .. | .store .. | .append .. | .copy .. | .apre .. | .clr .. | .call .. | .calld .. | .bad => true
 | _ => false
theorem D1.evalOp (h : D1 D H10 H20 H1 H2) {o : PO} (ho : nc7 o = true) {x : b7} {H1' : List b8} (he : (Ev.evalOp E a H1 o).run = some (x, H1')) : ∃ H2', (Ev.evalOp E a H2 o).run = some (x, H2') ∧ D1 D H10 H20 H1' H2' := by
 cases o with
 | alloc z =>
  simp only [Ev.evalOp, DT.run_ret] at he ⊢
  injection he with he; injection he with e1 e2; subst e1 e2
  have hl : len H2 = len H1 := by rw [l6, l6, h.lenq]
  exact ⟨_, by rw [hl]; rfl, h.app _⟩
 | box y =>
  simp only [Ev.evalOp] at he ⊢
  cases hf : Ev.freezeCells H1 (A0 (c7 E a y)) with
  | none => rw [hf] at he; cases he
  | some p =>
  obtain ⟨cs, Ha⟩ := p
  obtain ⟨Hb, h1, h2⟩ := D1.freezeCells h hf
  rw [hf] at he
  rw [h1]
  simp only [DT.run_ret] at he ⊢
  injection he with he; injection he with e1 e2; subst e1 e2
  have hl : len Hb = len Ha := by rw [l6, l6, h2.lenq]
  exact ⟨_, by rw [hl]; rfl, h2.app _⟩
 | bslice et es n z parts =>
  simp only [Ev.evalOp] at he ⊢
  cases hl : wb1 z (l0 (fun p => (p.1, p.2.1, c7 E a p.2.2)) parts) with
  | none => rw [hl] at he; cases he
  | some cs =>
  rw [hl] at he
  simp only at he ⊢
  cases hf : Ev.freezeCells H1 cs with
  | none => rw [hf] at he; cases he
  | some p =>
  obtain ⟨cs, Ha⟩ := p
  obtain ⟨Hb, h1, h2⟩ := D1.freezeCells h hf
  rw [hf] at he
  rw [h1]
  simp only [DT.run_ret] at he ⊢
  injection he with he; injection he with e1 e2; subst e1 e2
  have hl : len Hb = len Ha := by rw [l6, l6, h2.lenq]
  exact ⟨_, by rw [hl]; rfl, h2.app _⟩
 | mksl et es bytes z l c =>
  simp only [Ev.evalOp] at he ⊢
  cases h1 : fa6 (c7 E a l) with
  | none => rw [h1] at he; cases he
  | some n =>
  cases h2 : fa6 (c7 E a c) with
  | none => rw [h1, h2] at he; cases he
  | some m =>
  rw [h1, h2] at he
  simp only at he ⊢
  obtain ⟨h3, h4⟩ := DT.run_guard_some he
  simp only [DT.run_ret] at h4
  injection h4 with h4; injection h4 with e1 e2; subst e1 e2
  refine ⟨_, ?_, h.app _⟩
  simp only [DT.guard, DT.run_ite, h3, if_true, DT.run_ret]
  have hl : len H2 = len H1 := by rw [l6, l6, h.lenq]
  rw [hl]
  rfl
 | store n p y =>
  simp only [Ev.evalOp] at he ⊢
  revert he
  cases c7 E a p with
  | ptr id i c g =>
   intro he
   simp only at he ⊢
   cases hf : Ev.freezeCells H1 (A0 (c7 E a y)) with
   | none => rw [hf] at he; cases he
   | some q =>
   obtain ⟨cs, Ha⟩ := q
   obtain ⟨Hb, h1, h2⟩ := D1.freezeCells h hf
   rw [hf] at he
   rw [h1]
   simp only at he ⊢
   cases hb : Ev.blkAt Ha id g with
   | none => rw [hb] at he; cases he
   | some b =>
   obtain ⟨hD, hb2⟩ := h2.blkAt hb
   rw [hb] at he
   rw [hb2]
   simp only at he ⊢
   obtain ⟨hg, he⟩ := DT.run_guard_some he
   rw [hg]
   simp only [DT.run_ret] at he ⊢
   injection he with he; injection he with e1 e2; subst e1 e2
   exact ⟨_, rfl, h2.setAt hD _⟩
  | _ => intro he; cases he
 | append et es bytes s y => exact h.appendA he
 | copy es d s =>
  obtain ⟨H2', h1, h2⟩ := h.copyA (mb0 he)
  refine ⟨H2', ?_, h2⟩
  show (yd8 (Ev.copyA es (c7 E a d) (c7 E a s) H2)).run = _
  rw [h1]
  rfl
 | apre es s y => exact h.apreA he
 | clr es z y =>
  obtain ⟨H2', h1, h2⟩ := h.clrA (mb0 he)
  refine ⟨H2', ?_, h2⟩
  show (yd8 (Ev.clrA es z (c7 E a y) H2)).run = _
  rw [h1]
  rfl
 | call f args => exact h.callA he
 | calld y args =>
  simp only [Ev.evalOp] at he ⊢
  revert he
  cases c7 E a y with
  | fn f caps => intro he; exact h.callA he
  | _ => intro he; cases he
 | bad => cases he
 | _ => cases ho
end
end Go.Ev
namespace Go.Ev
open Go
section
variable {E : Env} {a a' : List b7} {H H' : List b8}
def Agr (a a' : List b7) (l : List Nat) : Prop := ∀ t ∈ l, a[t]? = a'[t]?
theorem Agr.left {l r : List Nat} (h : Agr a a' (l ++ r)) : Agr a a' l := fun t ht => h t (List.mem_append_left _ ht)
theorem Agr.right {l r : List Nat} (h : Agr a a' (l ++ r)) : Agr a a' r := fun t ht => h t (List.mem_append_right _ ht)
theorem Agr.t {t : Nat} (h : a[t]? = a'[t]?) : c7 E a (.t t) = c7 E a' (.t t) := by rw [Va2, Va2, h]
theorem Agr.arg {x : Arg} (h : Agr a a' (pa4 x)) : c7 E a x = c7 E a' x := by
 cases x with
 | t n => exact Agr.t (h n (by simp [pa4]))
 | c x => rfl
 | g n => rfl
theorem Agr.opt {x : Option Arg} (h : Agr a a' (ld6 x)) : x.map (c7 E a) = x.map (c7 E a') := by
 cases x with
 | none => rfl
 | some x => exact congrArg some (Agr.arg h)
theorem Agr.args {xs : List Arg} (h : Agr a a' (xs.flatMap pa4)) : l0 (c7 E a) xs = l0 (c7 E a') xs := by
 rw [l8, l8]
 refine List.map_congr_left fun x hx => Agr.arg fun t ht => h t (List.mem_flatMap.2 ⟨x, hx, ht⟩)
theorem Agr.parts {ps : List (Nat × Nat × Arg)} (h : Agr a a' (ps.flatMap fun p => pa4 p.2.2)) : l0 (fun p : Nat × Nat × Arg => (p.1, p.2.1, c7 E a p.2.2)) ps = l0 (fun p => (p.1, p.2.1, c7 E a' p.2.2)) ps := by
 rw [l8, l8]
 refine List.map_congr_left fun x hx => ?_
 rw [Agr.arg (E := E) (a := a) (a' := a') fun t ht => h t (List.mem_flatMap.2 ⟨x, hx, ht⟩)]
theorem qc8 {α β : Type} {f g : α → Option β} : ∀ {l : List α}, (∀ x ∈ l, f x = g x) → Ma9 f l = Ma9 g l
 | [], _ => rfl
 | x :: l, h => by
  have ih := qc8 (f := f) (g := g) (l := l) fun y hy => h y (by simp [hy])
  have e1 : ∀ (u : α → Option β), Ma9 u (x :: l) = Option.rec (motive := fun _ => Option (List β)) none (fun y => Option.rec (motive := fun _ => Option (List β)) none (fun r => some (y :: r)) (Ma9 u l)) (u x) := fun _ => rfl
  rw [e1, e1, ih, h x (by simp)]
theorem Agr.gen {o : Oper} {ts : List Nat} (h : Agr a a' ts) : Bc8 E a o ts = Bc8 E a' o ts := by
 unfold Bc8
 rw [qc8 fun t ht => by rw [Agr.t (E := E) (h t ht)]]
theorem Qb8 (o : PO) (h : Agr a a' (gb5 o)) : evalOp E a H o = evalOp E a' H o := by
 cases o with
 | alloc z => rfl
 | bad => rfl
 | pick c x y => simp only [evalOp, Agr.arg (E := E) h.left.left, Agr.arg (E := E) h.left.right, Agr.arg (E := E) h.right]
 | build z ps => simp only [evalOp, Agr.parts (E := E) h]
 | bslice et es n z ps => simp only [evalOp, Agr.parts (E := E) h]
 | tslice es n z ps => simp only [evalOp, Agr.parts (E := E) h]
 | slice es x lo hi => simp only [evalOp, Agr.arg (E := E) h.left.left, Agr.opt (E := E) h.left.right, Agr.opt (E := E) h.right]
 | mkfn f xs => simp only [evalOp, Agr.args (E := E) h]
 | call f xs => simp only [evalOp, Agr.args (E := E) h]
 | calld x xs => simp only [evalOp, Agr.args (E := E) h.right, Agr.arg (E := E) h.left]
 | gen o ts =>
  have e : Bc8 E a o ts = Bc8 E a' o ts := Agr.gen h
  simp only [evalOp, e]
 | eqn k neg x y o ts => simp only [evalOp, ee8, Agr.gen (E := E) h.right, Agr.arg (E := E) h.left.left, Agr.arg (E := E) h.left.right]
 | mv x => simp only [evalOp, Agr.arg (E := E) (x := x) h]
 | nilck x => simp only [evalOp, Agr.arg (E := E) (x := x) h]
 | box x => simp only [evalOp, Agr.arg (E := E) (x := x) h]
 | load ks n agg x => simp only [evalOp, Agr.arg (E := E) (x := x) h]
 | fld off x => simp only [evalOp, Agr.arg (E := E) (x := x) h]
 | ext x i => simp only [evalOp, Agr.arg (E := E) (x := x) h]
 | field off n agg x => simp only [evalOp, Agr.arg (E := E) (x := x) h]
 | not x => simp only [evalOp, Agr.arg (E := E) (x := x) h]
 | neg x => simp only [evalOp, Agr.arg (E := E) (x := x) h]
 | len x => simp only [evalOp, Agr.arg (E := E) (x := x) h]
 | clr es z x => simp only [evalOp, Agr.arg (E := E) (x := x) h]
 | _ => simp only [evalOp, Agr.arg (E := E) h.left, Agr.arg (E := E) h.right]
def ad5 (b b' : b8) : Prop := b'.dead = b.dead ∧ b'.g = b.g ∧ b'.es = b.es ∧ b'.elems = b.elems ∧ b'.et = b.et
def K3 (H H' : List b8) (id : Nat) : Prop := ∀ b, H[id]? = some b → ∃ b', H'[id]? = some b' ∧ ad5 b b'
theorem ad5.refl (b : b8) : ad5 b b := ⟨rfl, rfl, rfl, rfl, rfl⟩
theorem ad5.trans {b c d : b8} (h : ad5 b c) (k : ad5 c d) : ad5 b d := ⟨k.1.trans h.1, k.2.1.trans h.2.1, k.2.2.1.trans h.2.2.1, k.2.2.2.1.trans h.2.2.2.1, k.2.2.2.2.trans h.2.2.2.2⟩
theorem K3.refl (H : List b8) (id : Nat) : K3 H H id := fun b hb => ⟨b, hb, .refl b⟩
theorem K3.trans {H1 H2 H3 : List b8} {id : Nat} (h : K3 H1 H2 id) (k : K3 H2 H3 id) : K3 H1 H3 id := fun b hb => by
 obtain ⟨c, hc, h1⟩ := h b hb
 obtain ⟨d, hd, h2⟩ := k c hc
 exact ⟨d, hd, h1.trans h2⟩
theorem K3.blk {id g : Nat} {b : b8} (h : K3 H H' id) (hb : blkAt H id g = some b) : ∃ b', blkAt H' id g = some b' ∧ ad5 b b' := by
 obtain ⟨h1, h2, h3⟩ := r9 hb
 obtain ⟨b', k1, k2⟩ := h b h1
 refine ⟨b', ?_, k2⟩
 unfold blkAt
 rw [y6, k1]
 have hd : b'.dead = false := k2.1.trans h2
 have hg : Nat.beq b'.g g = true := by rw [k2.2.1, h3]; exact Nat.beq_refl g
 simp only [hd, hg]
theorem ad6 {p : b7} {n : Nat} {q : Bool × List b7} (h : ∀ id ∈ da1 p, K3 H H' id) (hl : ob6 H p n = some q) : ob6 H' p n = some q := by
 unfold ob6 at hl ⊢
 cases p with
 | ptr id i c g =>
  simp only at hl ⊢
  cases hb : blkAt H id g with
  | none => simp [hb] at hl
  | some b =>
  obtain ⟨b', h1, h2⟩ := (h id (by simp [da1])).blk hb
  simp only [hb] at hl
  rw [h1]
  simp only [h2.2.2.2.1]
  exact hl
 | _ => exact hl
theorem Ya9 {x : Option b7} {H1 : List b8} {r : b7} (h : (opt x H).run = some (r, H1)) (H' : List b8) : H1 = H ∧ (opt x H').run = some (r, H') := by
 obtain ⟨y, h1, h2⟩ := Ma0 h
 injection h2 with e1 e2
 subst e1 e2 h1
 exact ⟨rfl, rfl⟩
theorem ra2 {x r : b7} {H1 : List b8} (h : (DT.ret (x, H)).run = some (r, H1)) (H' : List b8) : H1 = H ∧ (DT.ret (x, H')).run = some (r, H') := by
 simp only [DT.run_ret] at h ⊢
 injection h with h; injection h with e1 e2; subst e1 e2
 exact ⟨rfl, rfl⟩
theorem pb5 {c : Bool} {x r : b7} {H1 : List b8} (h : (DT.guard c (DT.ret (x, H))).run = some (r, H1)) (H' : List b8) : H1 = H ∧ (DT.guard c (DT.ret (x, H'))).run = some (r, H') := by
 obtain ⟨h1, h2⟩ := DT.run_guard_some h
 obtain ⟨e, h3⟩ := ra2 h2 H'
 exact ⟨e, by rw [DT.guard, DT.run_ite, h1]; exact h3⟩
theorem Fb0 {α : Type} {d : DT α} {f : α → b7} {r : b7} {H1 : List b8} (h : (d.bind fun y => DT.ret (f y, H)).run = some (r, H1)) (H' : List b8) : H1 = H ∧ (d.bind fun y => DT.ret (f y, H')).run = some (r, H') := by
 obtain ⟨y, h1, h2⟩ := DT.run_bind_some h
 obtain ⟨e, h3⟩ := ra2 h2 H'
 exact ⟨e, by rw [DT.run_bind, h1]; exact h3⟩
theorem Qb9 {o : PO} (ho : nc2 o = true) {x : b7} {H1 : List b8} (he : (evalOp E a H o).run = some (x, H1)) : H1 = H ∧ ∀ H', (∀ id ∈ Ba6 E a o, K3 H H' id) → (evalOp E a H' o).run = some (x, H') := by
 suffices hs : ∀ H', (∀ id ∈ Ba6 E a o, K3 H H' id) → H1 = H ∧ (evalOp E a H' o).run = some (x, H') by
  exact ⟨(hs H fun id _ => .refl H id).1, fun H' h => (hs H' h).2⟩
 intro H' hu
 cases o with
 | mv y => exact ra2 he H'
 | nilck y =>
  simp only [evalOp] at he ⊢
  revert he
  cases c7 E a y <;> intro he <;> first | exact ra2 he H' | cases he
 | pick c y z =>
  simp only [evalOp] at he ⊢
  revert he
  cases c7 E a c with
  | v u =>
   cases u with
   | bool b =>
    intro he
    simp only [DT.run_ite, DT.run_ret] at he ⊢
    cases b <;> exact ra2 he H'
   | _ => intro he; cases he
  | _ => intro he; cases he
 | build z ps =>
  simp only [evalOp] at he ⊢
  split at he
  ·exact ra2 he H'
  ·cases he
 | tslice es n z ps =>
  simp only [evalOp] at he ⊢
  split at he
  ·split at he
   ·exact ra2 he H'
   ·cases he
  ·cases he
 | load ks n agg y =>
  simp only [evalOp] at he ⊢
  cases hl : ob6 H (c7 E a y) n with
  | none => rw [hl] at he; cases he
  | some q =>
  rw [ad6 hu hl]
  rw [hl] at he
  obtain ⟨hg, he⟩ := DT.run_guard_some he
  simp only [hg]
  exact Ya9 he H'
 | fld off y =>
  simp only [evalOp] at he ⊢
  revert he
  cases c7 E a y <;> intro he <;> first | exact ra2 he H' | cases he
 | idxA n es y i =>
  simp only [evalOp] at he ⊢
  revert he
  cases fa6 (c7 E a i) with
  | none => intro he; cases he
  | some m => cases c7 E a y <;> intro he <;> first | exact pb5 he H' | cases he
 | idxS es y i =>
  have hu' : ∀ id ∈ da1 (c7 E a y), K3 H H' id := hu
  simp only [evalOp] at he ⊢
  revert he hu'
  cases fa6 (c7 E a i) with
  | none => intro he _; cases he
  | some m =>
   cases c7 E a y with
   | sl id off n g =>
    intro he hu'
    simp only at he ⊢
    cases hb : blkAt H id g with
    | none => rw [hb] at he; cases he
    | some b =>
    obtain ⟨b', h1, h2⟩ := (hu' id (by simp [da1])).blk hb
    rw [hb] at he
    rw [h1]
    simp only [h2.2.2.1] at he ⊢
    cases hbe : Nat.beq b.es es with
    | false => rw [hbe] at he; cases he
    | true =>
     rw [hbe] at he
     exact pb5 he H'
   | tree es' n get =>
    intro he _
    simp only at he ⊢
    cases hbe : Nat.beq es' es with
    | false => rw [hbe] at he; cases he
    | true =>
     rw [hbe] at he
     exact pb5 he H'
   | _ => intro he _; cases he
 | slice es y lo hi =>
  have hu' : ∀ id ∈ da1 (c7 E a y), K3 H H' id := hu
  simp only [evalOp] at he ⊢
  revert he hu'
  cases c7 E a y with
  | sl id off n g =>
   intro he hu'
   simp only at he ⊢
   cases hb : blkAt H id g with
   | none => rw [hb] at he; cases he
   | some b =>
   obtain ⟨b', h1, h2⟩ := (hu' id (by simp [da1])).blk hb
   rw [hb] at he
   rw [h1]
   simp only [h2.2.2.1] at he ⊢
   cases hbe : Nat.beq b.es es with
   | false => rw [hbe] at he; cases he
   | true =>
    rw [hbe] at he
    exact Fb0 (f := fun y : Nat × Nat => .sl id (off + y.1) (y.2 - y.1) g) he H'
  | tree es' n get =>
   intro he _
   simp only at he ⊢
   cases hbe : Nat.beq es' es with
   | false => rw [hbe] at he; cases he
   | true =>
    rw [hbe] at he
    exact Fb0 (f := fun y : Nat × Nat => .tree es' (y.2 - y.1) fun i => get (y.1 + i)) he H'
  | v u =>
   intro he _
   cases u with
   | slice ad n c =>
    cases ad with
    | some _ => cases he
    | none => cases n with
     | succ _ => cases he
     | zero => cases c with
      | succ _ => cases he
      | zero => exact Fb0 (f := fun _ => .v (.slice none 0 0)) he H'
   | _ => cases he
  | _ => intro he _; cases he
 | mkfn f xs =>
  simp only [evalOp] at he ⊢
  split at he
  ·exact ra2 he H'
  ·cases he
 | ext y i =>
  simp only [evalOp] at he ⊢
  revert he
  cases c7 E a y <;> intro he <;> first | exact Ya9 he H' | cases he
 | field off n agg y =>
  simp only [evalOp] at he ⊢
  revert he
  cases c7 E a y with
  | agg cs =>
   intro he
   simp only at he ⊢
   split at he
   ·exact Ya9 he H'
   ·cases he
  | _ => intro he; cases he
 | index ks n es agg y i =>
  simp only [evalOp] at he ⊢
  revert he
  cases fa6 (c7 E a i) with
  | none => cases c7 E a y <;> intro he <;> cases he
  | some m =>
   cases c7 E a y with
   | agg cs =>
    intro he
    simp only at he ⊢
    obtain ⟨h1, h2⟩ := DT.run_guard_some he
    obtain ⟨e, h3⟩ := Ya9 h2 H'
    exact ⟨e, by rw [DT.guard, DT.run_ite, h1]; exact h3⟩
   | _ => intro he; cases he
 | bin op y z => exact Fb0 (f := fun r => r) he H'
 | eqn k neg y z o ts => exact Ya9 he H'
 | eqc neg fl y z =>
  simp only [evalOp] at he ⊢
  revert he
  cases c7 E a y with
  | agg cs =>
   cases c7 E a z with
   | agg ds => intro he; exact pb5 he H'
   | _ => intro he; cases he
  | _ => intro he; cases he
 | not y =>
  simp only [evalOp] at he ⊢
  revert he
  cases c7 E a y with
  | v u => cases u <;> intro he <;> first | exact ra2 he H' | cases he
  | _ => intro he; cases he
 | neg y =>
  simp only [evalOp] at he ⊢
  revert he
  cases c7 E a y with
  | v u => cases u <;> intro he <;> first | exact ra2 he H' | cases he
  | _ => intro he; cases he
 | gen o ts => exact Ya9 he H'
 | len y => exact Ya9 he H'
 | _ => cases ho
end
end Go.Ev
namespace Go.Ev
open Go
section
variable {E : Env} {a : List b7} {H H1 : List b8}
theorem K3.disown (H : List b8) (l id : Nat) : K3 H (disown H l) id := fun b hb => by
 unfold Ev.disown modAt
 rw [y6]
 by_cases e : l = id
 ·subst e
  simp only [hb, z6]
  rw [List.getElem?_set_self (List.getElem?_eq_some_iff.1 hb).1]
  exact ⟨_, rfl, rfl, rfl, rfl, rfl, rfl⟩
 ·cases H[l]? with
  | none => exact ⟨b, hb, .refl b⟩
  | some c =>
   simp only [z6]
   rw [List.getElem?_set_ne e]
   exact ⟨b, hb, .refl b⟩
theorem K3.setAt (H : List b8) {l id : Nat} (c : b8) (hne : l ≠ id) : K3 H (Ev.setAt H l c) id := fun b hb => by
 rw [z6, List.getElem?_set_ne hne]
 exact ⟨b, hb, .refl b⟩
theorem K3.modAt (H : List b8) {l id : Nat} (f : b8 → b8) (hne : l ≠ id) : K3 H (Ev.modAt H l f) id := by
 unfold Ev.modAt
 cases nth H l with
 | none => exact .refl _ _
 | some c => exact .setAt H _ hne
theorem K3.app (H l : List b8) (id : Nat) : K3 H (Ev.app H l) id := fun b hb => by
 rw [C0, List.getElem?_append_left (List.getElem?_eq_some_iff.1 hb).1]
 exact ⟨b, hb, .refl b⟩
theorem jc1 {x y : b7} (h : freezeCell H x = some (y, H1)) (id : Nat) : K3 H H1 id := by
 unfold freezeCell at h
 cases x with
 | v u =>
  simp only at h
  split at h
  ·injection h with h; injection h with e1 e2; subst e2; exact .refl _ _
  ·cases h
 | tree es n get => simp only at h; injection h with h; injection h with e1 e2; subst e2; exact .refl _ _
 | fn f caps =>
  cases caps with
  | nil => simp only at h; injection h with h; injection h with e1 e2; subst e2; exact .refl _ _
  | cons => cases h
 | sl l off n g =>
  simp only at h
  split at h
  ·injection h with h; injection h with e1 e2; subst e2; exact .disown _ _ _
  ·cases h
 | _ => cases h
theorem va0 : ∀ {xs ys : List b7} {H H1 : List b8}, freezeCells H xs = some (ys, H1) → ∀ id, K3 H H1 id
 | [], ys, H, H1, h, id => by
  simp only [freezeCells] at h
  injection h with h; injection h with e1 e2; subst e2; exact .refl _ _
 | x :: xs, ys, H, H1, h, id => by
  simp only [freezeCells] at h
  cases h1 : freezeCell H x with
  | none => simp [h1] at h
  | some p =>
  obtain ⟨y, Ha⟩ := p
  simp only [h1] at h
  cases h2 : freezeCells Ha xs with
  | none => simp [h2] at h
  | some q =>
  obtain ⟨l, Hb⟩ := q
  simp only [h2] at h
  injection h with h; injection h with e1 e2; subst e2
  exact (jc1 h1 id).trans (va0 h2 id)
theorem Jc9 {roots r : List Nat} {id j : Nat} (h : qa8 roots id = (j, r)) {y : Nat} (hy : y ∈ r) : y ∈ roots ∨ y = id := by
 unfold qa8 at h
 split at h
 ·injection h with e1 e2; subst e2; exact .inl hy
 ·rw [C0] at h
  injection h with e1 e2; subst e2
  simpa using hy
theorem Rb0 {p q : pa3} {x z : b7} (h : capArg H p x = some (z, q)) {y : Nat} (hy : y ∈ q.roots) : y ∈ p.roots ∨ y ∈ Ea0 [x] := by
 have hsame : ∀ {z' : b7}, some (z', p) = some (z, q) → y ∈ p.roots ∨ y ∈ Ea0 [x] := fun {z'} e => by
  injection e with e; injection e with e1 e2; subst e2; exact .inl hy
 unfold capArg at h
 cases x with
 | v u => exact hsame h
 | tree es n get => exact hsame h
 | tptr cs => exact hsame h
 | fn f caps => cases caps with
  | nil => exact hsame h
  | cons => cases h
 | ptr id i c g =>
  simp only at h
  split at h
  ·cases hi : qa8 p.roots id with
   | mk j r =>
    simp only [hi] at h
    injection h with h; injection h with e1 e2; subst e2
    rcases Jc9 hi hy with h | h
    ·exact .inl h
    ·subst h; exact .inr (by show y ∈ y :: _; exact List.mem_cons_self)
  ·cases h
 | sl id off n g =>
  simp only at h
  split at h
  ·injection h with h; injection h with e1 e2; subst e2; exact .inl hy
  ·cases h
 | _ => cases h
theorem yb0 (x : b7) (l : List b7) : Ea0 (x :: l) = match x with
  | .ptr id _ _ _ => id :: Ea0 l
  | _ => Ea0 l := rfl
theorem jc2 {x : b7} {l : List b7} {y : Nat} : y ∈ Ea0 (x :: l) ↔ y ∈ Ea0 [x] ∨ y ∈ Ea0 l := by
 rw [yb0, yb0]
 have : Ea0 [] = [] := rfl
 cases x <;> simp [this]
theorem ib8 : ∀ {xs zs : List b7} {p q : pa3}, capArgs H p xs = some (zs, q) → ∀ {y : Nat}, y ∈ q.roots → y ∈ p.roots ∨ y ∈ Ea0 xs
 | [], zs, p, q, h, y, hy => by
  simp only [capArgs] at h
  injection h with h; injection h with e1 e2; subst e2; exact .inl hy
 | x :: xs, zs, p, q, h, y, hy => by
  simp only [capArgs] at h
  cases h1 : capArg H p x with
  | none => simp [h1] at h
  | some r =>
  obtain ⟨z, p1⟩ := r
  simp only [h1] at h
  cases h2 : capArgs H p1 xs with
  | none => simp [h2] at h
  | some r2 =>
  obtain ⟨l, p2⟩ := r2
  simp only [h2] at h
  injection h with h; injection h with e1 e2; subst e2
  rw [jc2]
  rcases ib8 h2 hy with h | h
  ·rcases Rb0 h1 h with h | h
   ·exact .inl h
   ·exact .inr (.inl h)
  ·exact .inr (.inr h)
theorem yb1 {own : Nat → Bool} : ∀ {xs zs : List b7} {p q : pa3} {k : Nat}, prepArgs H own p k xs = some (zs, q) → ∀ {y : Nat}, y ∈ q.roots → y ∈ p.roots ∨ y ∈ da2 own k xs
 | [], zs, p, q, k, h, y, hy => by
  simp only [prepArgs] at h
  injection h with h; injection h with e1 e2; subst e2; exact .inl hy
 | x :: xs, zs, p, q, k, h, y, hy => by
  simp only [prepArgs] at h
  cases h1 : prepArg H (own k) p x with
  | none => simp [h1] at h
  | some r =>
  obtain ⟨z, p1⟩ := r
  simp only [h1] at h
  cases h2 : prepArgs H own p1 (k + 1) xs with
  | none => simp [h2] at h
  | some r2 =>
  obtain ⟨l, p2⟩ := r2
  simp only [h2] at h
  injection h with h; injection h with e1 e2; subst e2
  have hrest : ∀ {y}, y ∈ da2 own (k + 1) xs → y ∈ da2 own k (x :: xs) := fun {y} hy => by
   simp only [da2]
   cases x with
   | ptr => exact List.mem_cons_of_mem _ hy
   | sl => cases own k <;> first | exact List.mem_cons_of_mem _ hy | exact hy
   | agg => simp only [C0]; exact List.mem_append_right _ hy
   | fn => simp only [C0]; exact List.mem_append_right _ hy
   | _ => exact hy
  rcases yb1 h2 hy with h | h
  ·have hcap : ∀ {z' : b7} {q' : pa3}, capArg H p x = some (z', q') → q' = p1 → y ∈ p.roots ∨ y ∈ Ea0 [x] := fun e e2 => Rb0 e (e2 ▸ h)
   unfold prepArg at h1
   cases x with
   | v u =>
    simp only at h1
    injection h1 with h1; injection h1 with e1 e2; subst e2; exact .inl h
   | sl id off n g =>
    cases ho : own k with
    | false =>
     rw [ho] at h1
     rcases hcap h1 rfl with h | h
     ·exact .inl h
     ·cases h
    | true =>
     rw [ho] at h1
     simp only at h1
     split at h1
     ·split at h1
      ·cases hi : qa8 p.roots id with
       | mk j r =>
        simp only [hi] at h1
        injection h1 with h1; injection h1 with e1 e2; subst e2
        rcases Jc9 hi h with h | h
        ·exact .inl h
        ·subst h
         refine .inr ?_
         simp only [da2, ho]
         exact List.mem_cons_self
      ·cases h1
     ·cases h1
   | agg cs =>
    simp only at h1
    cases h3 : capArgs H p cs with
    | none => simp [h3] at h1
    | some r3 =>
    simp only [h3] at h1
    injection h1 with h1; injection h1 with e1 e2; subst e2
    rcases ib8 h3 h with h | h
    ·exact .inl h
    ·refine .inr ?_
     simp only [da2, C0]
     exact List.mem_append_left _ h
   | fn f cs =>
    simp only at h1
    cases h3 : capArgs H p cs with
    | none => simp [h3] at h1
    | some r3 =>
    simp only [h3] at h1
    injection h1 with h1; injection h1 with e1 e2; subst e2
    rcases ib8 h3 h with h | h
    ·exact .inl h
    ·refine .inr ?_
     simp only [da2, C0]
     exact List.mem_append_left _ h
   | ptr id i c g =>
    rcases hcap h1 rfl with h | h
    ·exact .inl h
    ·refine .inr ?_
     have : y = id := by simpa [yb0, show Ea0 [] = [] from rfl] using h
     subst this
     simp only [da2]
     exact List.mem_cons_self
   | _ =>
    rcases hcap h1 rfl with h | h
    ·exact .inl h
    ·cases h
  ·exact .inr (hrest h)
theorem Rb1 : ∀ {roots : List Nat} {H out H1 : List b8}, putBack H roots out = some H1 → ∀ {id : Nat}, id ∉ roots → K3 H H1 id
 | [], H, [], H1, h, id, _ => by
  simp only [putBack] at h
  injection h with h; subst h; exact .refl _ _
 | [], H, c :: out, H1, h, id, _ => by
  simp only [putBack] at h
  injection h with h; subst h; exact .app _ _ _
 | r :: roots, H, [], H1, h, id, _ => by simp [putBack] at h
 | r :: roots, H, c :: out, H1, h, id, hn => by
  simp only [putBack] at h
  simp only [List.mem_cons, not_or] at hn
  exact (K3.modAt H _ (fun e => hn.1 e.symm)).trans (Rb1 h hn.2)
theorem fc6 (held : Bool) (H : List b8) : ∀ (lent : List Nat) (id : Nat), K3 H (settle lent held H) id
 | [], id => .refl _ _
 | l :: lent, id => by
  have ih := fc6 held H lent id
  rw [gb8]
  split
  ·exact ih.trans (.disown _ _ _)
  ·exact ih
theorem qc9 {f : FuncId} {args : List b7} {x : b7} (he : (callA E f args H).run = some (x, H1)) {id : Nat} (hid : id ∉ da2 (E.own f) 0 args) : K3 H H1 id := by
 unfold callA at he
 cases hpr : prepArgs H (E.own f) { roots := [], lent := [] } 0 args with
 | none => rw [hpr] at he; cases he
 | some q =>
 obtain ⟨ub2, p⟩ := q
 rw [hpr] at he
 simp only at he
 have hroot : id ∉ p.roots := fun h => by
  rcases yb1 hpr h with h | h
  ·cases h
  ·exact hid h
 split at he
 ·obtain ⟨⟨r, out⟩, _, he⟩ := DT.run_bind_some he
  simp only at he
  cases hpb : putBack H p.roots out with
  | none => rw [hpb] at he; cases he
  | some H2 =>
  rw [hpb] at he
  simp only [DT.run_ret] at he
  injection he with he; injection he with e1 e2; subst e2
  exact (Rb1 hpb hroot).trans (fc6 _ _ _ _)
 ·cases he
theorem Pc6 {o : PO} (ho : nc7 o = true) {x : b7} (he : (evalOp E a H o).run = some (x, H1)) {id : Nat} (hid : id ∉ L1 E a o) : K3 H H1 id := by
 cases o with
 | alloc z =>
  simp only [evalOp, DT.run_ret] at he
  injection he with he; injection he with e1 e2; subst e2
  exact .app _ _ _
 | box y =>
  simp only [evalOp] at he
  cases hf : freezeCells H (A0 (c7 E a y)) with
  | none => rw [hf] at he; cases he
  | some p =>
  rw [hf] at he
  simp only [DT.run_ret] at he
  injection he with he; injection he with e1 e2; subst e2
  exact (va0 hf id).trans (.app _ _ _)
 | bslice et es n z parts =>
  simp only [evalOp] at he
  split at he
  ·rename_i cs _
   cases hf : freezeCells H cs with
   | none => rw [hf] at he; cases he
   | some p =>
   rw [hf] at he
   simp only [DT.run_ret] at he
   injection he with he; injection he with e1 e2; subst e2
   exact (va0 hf id).trans (.app _ _ _)
  ·cases he
 | mksl et es bytes z l c =>
  simp only [evalOp] at he
  split at he
  ·obtain ⟨_, h⟩ := DT.run_guard_some he
   simp only [DT.run_ret] at h
   injection h with h; injection h with e1 e2; subst e2
   exact .app _ _ _
  ·cases he
 | store n p y =>
  have hid' : id ∉ da1 (c7 E a p) := hid
  simp only [evalOp] at he
  revert he hid'
  cases c7 E a p with
  | ptr l i c g =>
   intro he hid'
   simp only at he
   cases hf : freezeCells H (A0 (c7 E a y)) with
   | none => rw [hf] at he; cases he
   | some q =>
   rw [hf] at he
   simp only at he
   split at he
   ·obtain ⟨_, he⟩ := DT.run_guard_some he
    simp only [DT.run_ret] at he
    injection he with he; injection he with e1 e2; subst e2
    exact (va0 hf id).trans (.setAt _ _ fun e => hid' (by simp [da1, e]))
   ·cases he
  | _ => intro he _; cases he
 | append et es bytes s y =>
  have hid' : id ∉ da1 (c7 E a s) := hid
  have he' : (appendA et es bytes (c7 E a s) (c7 E a y) H).run = some (x, H1) := he
  revert he' hid'
  generalize c7 E a s = u
  intro hid' he
  unfold appendA at he
  split at he
  ·split at he
   ·rcases DT.run_ite_some he with ⟨_, h⟩ | ⟨_, h⟩
    ·simp only [DT.run_ret] at h
     injection h with h; injection h with e1 e2; subst e2; exact .refl _ _
    ·obtain ⟨_, h⟩ := DT.run_guard_some h
     simp only [DT.run_ret] at h
     injection h with h; injection h with e1 e2; subst e2; exact .app _ _ _
   ·split at he
    ·split at he
     ·rcases DT.run_ite_some he with ⟨_, h⟩ | ⟨_, h⟩
      ·simp only [DT.run_ret] at h
       injection h with h; injection h with e1 e2; subst e2; exact .refl _ _
      ·obtain ⟨_, h⟩ := DT.run_guard_some h
       simp only [DT.run_ret] at h
       injection h with h; injection h with e1 e2; subst e2
       exact .setAt _ _ fun e => hid' (by simp [da1, e])
     ·cases he
    ·cases he
   ·cases he
  ·cases he
 | copy es d s =>
  have hid' : id ∉ da1 (c7 E a d) := hid
  have he' : copyA es (c7 E a d) (c7 E a s) H = some (x, H1) := mb0 he
  revert he' hid'
  generalize c7 E a d = u
  intro hid' he
  unfold copyA at he
  split at he
  ·split at he
   ·split at he
    ·split at he
     ·injection he with he; injection he with e1 e2; subst e2
      exact .setAt _ _ fun e => hid' (by simp [da1, e])
     ·cases he
    ·cases he
   ·cases he
  ·cases he
 | apre es s y =>
  have hid' : id ∉ da1 (c7 E a s) := hid
  have he' : (apreA es (c7 E a s) (c7 E a y) H).run = some (x, H1) := he
  revert he' hid'
  generalize c7 E a s = u
  intro hid' he
  unfold apreA at he
  split at he
  ·split at he
   ·obtain ⟨_, h⟩ := DT.run_guard_some he
    simp only [DT.run_ret] at h
    injection h with h; injection h with e1 e2; subst e2; exact .refl _ _
   ·split at he
    ·split at he
     ·obtain ⟨_, h⟩ := DT.run_guard_some he
      simp only [DT.run_ret] at h
      injection h with h; injection h with e1 e2; subst e2
      exact .setAt _ _ fun e => hid' (by simp [da1, e])
     ·cases he
    ·cases he
   ·cases he
  ·cases he
 | clr es z y =>
  have hid' : id ∉ da1 (c7 E a y) := hid
  have he' : clrA es z (c7 E a y) H = some (x, H1) := mb0 he
  revert he' hid'
  generalize c7 E a y = u
  intro hid' he
  unfold clrA at he
  split at he
  ·injection he with he; injection he with e1 e2; subst e2; exact .refl _ _
  ·split at he
   ·split at he
    ·injection he with he; injection he with e1 e2; subst e2
     exact .setAt _ _ fun e => hid' (by simp [da1, e])
    ·cases he
   ·cases he
  ·cases he
 | call f args => exact qc9 he hid
 | calld y args =>
  have hid' : id ∉ L1 E a (.calld y args) := hid
  simp only [evalOp] at he
  simp only [L1] at hid'
  revert he hid'
  cases c7 E a y with
  | fn f caps => intro he hid'; exact qc9 he hid'
  | _ => intro he; cases he
 | bad => cases he
 | _ => cases ho
end
end Go.Ev
