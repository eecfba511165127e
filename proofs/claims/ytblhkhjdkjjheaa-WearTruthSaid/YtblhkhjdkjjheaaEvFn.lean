/- A function by its body (own work). -/
import Derived.Test.YtblhkhjdkjjheaaEvRun
set_option linter.unusedVariables false
set_option linter.unusedSimpArgs false
set_option linter.unnecessarySimpa false
set_option linter.unusedSectionVars false
namespace Go.Ev
open Go
section
variable {W : Nat → Prop} {ρ ρ0 : Rho} {H H0 : List ABlk} {F F0 : Fz} {w w0 : World} {E : Env}

theorem loadVar_ok {P : Program} {t : TypeId} {p z : AVal} {p' : Value} {cs : List AVal} (hH : HRel W ρ H F w) (hy : WRel ρ H F w p p') (hu : P.underlying t ≠ none) (hl : Ev.loadCells H p (szT P t) = some cs) (h1 : asType (agT P t) cs = some z) :
    ∃ ad z', p' = .pointer (some ad) ∧ (loadVar t ad).run P w = .ok z' w ∧ VRel ρ H F w z z' := by
  obtain ⟨ad, vs, e, hs, hcl, hvl, hw, hr⟩ := loadCells_rel hH hy hl
  have hti : ∃ i, P.info? t = some i ∧ i.size = szT P t := by
    cases hd : P.underlying t with
    | none => exact absurd hd hu
    | some d => exact szT_info hd
  obtain ⟨ti, hi1, hi2⟩ := hti
  rcases asType_ok h1 with ⟨hag, rfl⟩ | ⟨hag, z', rfl, rfl⟩
  · refine ⟨ad, .agg vs.toArray, e, ?_, .agg cs vs.toArray (by simp [hcl, hvl]) fun i x x' hx hx' => .mem (hr i x x' hx (by simpa using hx'))⟩
    have hlc : (Go.loadCells ad (szT P t)).run P w = .ok vs.toArray w := by
      rw [← hvl]
      refine run_loadCells_list (P := P) w ad vs fun j v hj => ?_
      have hj' : j < szT P t := by rw [← hvl]; exact (List.getElem?_eq_some_iff.1 hj).1
      rw [add_spot (hs (by omega))]
      exact hw j v hj
    simp [loadVar, isAgg_run hag, sizeOf, typeInfo, hi1, hi2, hlc]
  · have h1 : szT P t = 1 := by simpa using hcl.symm
    have hv1 : vs.length = 1 := by omega
    obtain ⟨v, rfl⟩ : ∃ v, vs = [v] := by
      match vs, hv1 with
      | [v], _ => exact ⟨v, rfl⟩
    have hc := hw 0 v rfl
    have hsp := hs (by omega)
    have hcell : w.cell? ad = some v := by
      obtain ⟨b, of, sp⟩ := ad
      simp at hsp
      subst hsp
      simpa using hc
    exact ⟨ad, v, e, by simp [loadVar, isAgg_run' hag hu, hcell], .cell (.mem (hr 0 _ v rfl rfl))⟩

def resM (tmps : Array Value) : ResultVar → Sem Value
  | .tmp t => pure (tmps.getD t undef)
  | .cell a t => do loadVar t (← asAddr (tmps.getD a undef))
noncomputable def resV (P : Program) (w : World) (tmps : Array Value) (r : ResultVar) : Value :=
  match r with
  | .tmp t => tmps.getD t undef
  | .cell a t => match (do loadVar t (← asAddr (tmps.getD a undef)) : Sem Value).run P w with
    | .ok v _ => v
    | _ => undef

theorem resVar_ok {P : Program} {a : List AVal} {tmps : Array Value} (hH : HRel W ρ H F w) (hA : ARel ρ H F w a tmps) {r : ResultVar} (hr : resOk P r = true) {x : AVal} (hx : resVar a H (cRes P r) = some x) :
    (resM tmps r).run P w = .ok (resV P w tmps r) w ∧ VRel ρ H F w x (resV P w tmps r) := by
  have hat : ∀ {t : Nat} {y : AVal}, a[t]? = some y → WRel ρ H F w y (tmps.getD t undef) := fun {t y} hy => by
    have hlt := (List.getElem?_eq_some_iff.1 hy).1
    have hlt' : t < tmps.size := hA.1 ▸ hlt
    have := hA.2 t y _ hy (Array.getElem?_eq_getElem hlt')
    simpa [Array.getD, hlt'] using this
  cases r with
  | tmp t =>
    simp only [cRes, resVar, nth_eq] at hx
    cases hy : a[t]? with
    | none => simp [hy] at hx
    | some y =>
      rw [hy] at hx
      have hxy : y = x ∧ ∀ l, y ≠ .tup l := by
        cases y <;> first | (simp at hx; done) | (injection hx with hx; exact ⟨hx, fun _ e => by cases e⟩)
      obtain ⟨rfl, hnt⟩ := hxy
      refine ⟨rfl, ?_⟩
      show VRel ρ H F w y (tmps.getD t undef)
      have h := hat hy
      revert h
      generalize tmps.getD t undef = u
      intro h
      cases h with
      | val h => exact h
      | tup xs => exact absurd rfl (hnt xs)
  | cell p t =>
    simp only [cRes, resVar, nth_eq] at hx
    cases hy : a[p]? with
    | none => simp [hy] at hx
    | some y =>
    simp only [hy] at hx
    cases hl : Ev.loadCells H y (szT P t) with
    | none => simp [hl] at hx
    | some cs =>
    simp only [hl] at hx
    have hu : P.underlying t ≠ none := fun h => by simp [resOk, h] at hr
    obtain ⟨ad, z', e, h1, h2⟩ := loadVar_ok hH (hat hy) hu hl hx
    have hrun : (do loadVar t (← asAddr (tmps.getD p undef)) : Sem Value).run P w = .ok z' w := by
      rw [e]
      simp [asAddr, h1]
    have hv : resV P w tmps (.cell p t) = z' := by
      simp only [resV, hrun]
    rw [hv]
    exact ⟨hrun, h2⟩

theorem results_ok {fn : Func} {a : List AVal} {tmps : Array Value} {P : Program} (hH : HRel W ρ H F w) (hA : ARel ρ H F w a tmps) (hr : fn.results.toList.all (resOk P) = true) {l : List AVal} (hl : mapO (resVar a H) (fn.results.toList.map (cRes P)) = some l) :
    ∃ v, (results fn tmps).run P w = .ok v w ∧ WRel ρ H F w (resVal l) v := by
  obtain ⟨hlen, hat⟩ := mapO_some hl
  simp only [List.length_map, Array.length_toList] at hlen
  have hone : ∀ (i : Nat) r, fn.results.toList[i]? = some r → ∃ x, l[i]? = some x ∧ (resM tmps r).run P w = .ok (resV P w tmps r) w ∧ VRel ρ H F w x (resV P w tmps r) := fun i r hri => by
    obtain ⟨x, h1, h2⟩ := hat i (cRes P r) (by simp only [List.getElem?_map, hri, Option.map_some])
    exact ⟨x, h2, resVar_ok hH hA (List.all_eq_true.1 hr r (List.mem_of_getElem? hri)) h1⟩
  have hm : (fn.results.mapM (resM tmps)).run P w = .ok (fn.results.map (resV P w tmps)) w := by
    refine run_mapM_arr _ _ w fn.results fun r hrm => ?_
    obtain ⟨i, hi⟩ := List.getElem?_of_mem (Array.mem_toList_iff.2 hrm)
    obtain ⟨x, _, h2, _⟩ := hone i r hi
    exact h2
  have hrun : (results fn tmps).run P w = .ok (if h : (fn.results.map (resV P w tmps)).size = 1 then (fn.results.map (resV P w tmps))[0] else .tuple (fn.results.map (resV P w tmps))) w := by
    have e : results fn tmps = (do
        let vs ← fn.results.mapM (resM tmps)
        pure (if h : vs.size = 1 then vs[0] else .tuple vs)) := by
      unfold results
      congr 1
    rw [e, Sem.run_bind, hm]
    rfl
  refine ⟨_, hrun, ?_⟩
  by_cases h1 : fn.results.size = 1
  · have hl1 : l.length = 1 := hlen.trans h1
    obtain ⟨x, rfl⟩ : ∃ x, l = [x] := by
      match l, hl1 with
      | [x], _ => exact ⟨x, rfl⟩
    have hlt : 0 < fn.results.toList.length := by simp [h1]
    obtain ⟨x', k1, _, k3⟩ := hone 0 _ (List.getElem?_eq_getElem hlt)
    simp at k1
    subst k1
    rw [dif_pos (by simpa using h1)]
    simp at k3 ⊢
    exact .val k3
  · rw [dif_neg (by simpa using h1)]
    have e : resVal l = .tup l := by
      match l, hlen with
      | [], _ => rfl
      | [x], h => exact absurd h.symm h1
      | _ :: _ :: _, _ => rfl
    rw [e]
    refine .tup l _ (by simp [hlen]) fun i x x' hx hx' => ?_
    have hi : i < fn.results.toList.length := by
      have := (List.getElem?_eq_some_iff.1 hx).1
      simpa [hlen] using this
    obtain ⟨y, k1, _, k3⟩ := hone i _ (List.getElem?_eq_getElem hi)
    have : y = x := Option.some.inj (k1.symm.trans hx)
    subst this
    have : x' = resV P w tmps fn.results.toList[i] := by
      simp only [Array.getElem?_map, Option.map_eq_some_iff] at hx'
      obtain ⟨r, hr1, hr2⟩ := hx'
      rw [← hr2]
      congr 1
      have hr3 : fn.results.toList[i]? = some r := by simpa using hr1
      exact (Option.some.inj ((List.getElem?_eq_getElem hi).symm.trans hr3)).symm
    rw [this]
    exact k3

theorem runFn_ok {f : FuncId} {fn : Func} {pf : PFn} (hf : E.P.funcs[f]? = some fn) (hname : fn.name ≠ "runtime.NumGoroutine") (hc : compile E.P fn = some pf) (hcalls : ∀ f, FnOk E.P E.G f (E.call f)) (hdraw : DrawOk E) :
    FnOk E.P E.G f (runFn E pf) := by
  intro args blks r out he W ρ F w args' hH hlen hargs hG
  unfold compile at hc
  cases hb : fn.body with
  | none => simp [hb] at hc
  | some c =>
  simp only [hb] at hc
  split at hc
  case isFalse => cases hc
  rename_i hres
  injection hc with hc
  subst hc
  refine ⟨⟨fn, hf, by simp [hb], hname⟩, ?_⟩
  unfold runFn at he
  rw [len_eq, app_eq, len_eq] at he
  obtain ⟨⟨x, s1⟩, h1, h2⟩ := DT.run_bind_some he
  simp only at h2 h1
  refine calls_of_wp hf hb ?_
  have hI : Inv W ρ blks F w ⟨args ++ List.replicate (fn.ntmps - args.length) (.v (.tuple #[])), blks⟩ { tmps := args'.toArray ++ Array.replicate (fn.ntmps - args'.toArray.size) undef, defers := [] } w := by
    refine ⟨rfl, ρ, F, .refl, hH, by simp [hlen], fun i y y' hy hy' => ?_⟩
    simp only at hy hy'
    rcases Nat.lt_or_ge i args.length with hi | hi
    · rw [List.getElem?_append_left hi] at hy
      rw [Array.getElem?_append_left (by simpa [← hlen] using hi)] at hy'
      exact hargs i y y' hy (by simpa using hy')
    · rw [List.getElem?_append_right hi] at hy
      rw [Array.getElem?_append_right (by simpa [← hlen] using hi)] at hy'
      rw [List.getElem?_replicate] at hy
      rw [Array.getElem?_replicate] at hy'
      split at hy
      · split at hy'
        · injection hy with hy; injection hy' with hy'
          subst hy hy'
          exact .ofv _
        · cases hy'
      · cases hy
  have hfin : ∀ (ac' : Act) (w' : World), Inv W ρ blks F w s1 ac' w' → (match x with | .exit _ => False | _ => True) → (match mapO (resVar s1.a s1.H) (fn.results.toList.map (cRes E.P)) with
        | some l => finish blks.length s1.H (resVal l)
        | none => .fail).run = some (r, out) → ac'.defers = [] ∧ ∃ v, (results fn ac'.tmps).run E.P w' = .ok v w' ∧ ∃ r', Ending.returned v = .returned r' ∧ Post W ρ blks F w r out r' w' := fun ac' w' hI' _ hr => by
    obtain ⟨hd, ρ1, F1, a1, a2, a3⟩ := hI'
    cases hm : mapO (resVar s1.a s1.H) (fn.results.toList.map (cRes E.P)) with
    | none => rw [hm] at hr; cases hr
    | some l =>
    rw [hm] at hr
    obtain ⟨v, k1, k2⟩ := results_ok a2 a3 hres hm
    refine ⟨hd, v, k1, v, rfl, ?_⟩
    simp only [finish] at hr
    cases ht : tidyV blks.length s1.H (List.range blks.length) (resVal l) with
    | mk z roots =>
    simp only [ht] at hr
    cases hb2 : blksK blks.length s1.H 0 roots with
    | none => simp [hb2] at hr
    | some H2 =>
    simp only [hb2] at hr
    have hr' : some (z, H2) = some (r, out) := hr
    injection hr' with hr'; injection hr' with e1 e2; subst e1 e2
    obtain ⟨m1, _, m3⟩ := tidyV_ok (TOk.start _) ht
    exact ⟨_, F1, tidy_adv m1 hb2 a1, tidy_hrel m1 a2 hb2, tidy_w hb2 m3 k2⟩
  refine exec_sound hG hcalls hdraw ((codeFor E.P c).note _ _ _ _) _ x s1 h1 _ w _ hI fun ac' w' hI' => ?_
  cases x with
  | normal => exact hfin ac' w' hI' trivial h2
  | ret => exact hfin ac' w' hI' trivial h2
  | exit id => cases h2
end
end Go.Ev

