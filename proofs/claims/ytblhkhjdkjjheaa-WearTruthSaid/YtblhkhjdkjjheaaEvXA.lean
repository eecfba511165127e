/- Total of the program and of the reference, as one plain function (own work). -/
import Derived.Test.YtblhkhjdkjjheaaEvX9
set_option linter.unusedVariables false
set_option linter.unusedSimpArgs false
set_option linter.unnecessarySimpa false
set_option linter.unusedSectionVars false
namespace Go.Ev.W.X
open Go Go.Ev Go.Ev.W Go.Proofs
set_option maxRecDepth 100000
theorem lp_fold {σ β : Type} {step : σ → Stp σ} {enc : Nat → β → σ} {t : Nat} (x : List Ent) (F : β → Ent → β) (h1 : ∀ j acc, j < x.length → step (enc j acc) = .next (enc (j + 1) (F acc (gE x j)))) (h2 : ∀ acc, step (enc x.length acc) = .exit t)
    (b : β) (hn : x.length ≤ 4611686018427387904) : lp step (enc 0 b) = (t, enc x.length (x.foldl F b)) := by
  have h := lp_inv2 (step := step) (I := fun m s => ∃ j acc, m = x.length - j ∧ j ≤ x.length ∧ s = enc j acc ∧ (x.drop j).foldl F acc = x.foldl F b) (Q := fun t' s => t' = t ∧ s = enc x.length (x.foldl F b)) (fun m s hi => by
    obtain ⟨j, acc, rfl, h3, rfl, h4⟩ := hi
    by_cases hj : j < x.length
    · refine .inr ⟨_, x.length - (j + 1), by omega, h1 j acc hj, j + 1, _, rfl, by omega, rfl, ?_⟩
      rw [← h4, List.drop_eq_getElem_cons hj, gE_at hj]
      rfl
    · have hj : j = x.length := by omega
      subst hj
      refine .inl ⟨t, h2 acc, rfl, ?_⟩
      rw [List.drop_length] at h4
      rw [← h4]
      rfl) x.length (enc 0 b) hn ⟨0, b, rfl, by omega, rfl, rfl⟩
  exact Prod.ext h.1 h.2
noncomputable def addIf (t : Int) (f : Ent → Int) (a : Int) (e : Ent) : Int := sel (e.t == t) (W (a + f e)) a
noncomputable def tot (l : List Ent) (t : Int) : Int × Int × Int := sel (chk l != 0) (0, 0, chk l) (l.foldl (addIf t Ent.l) 0, l.foldl (addIf t Ent.h) 0, 0)
theorem sum42a (x : List Ent) (y : Int) (hb : x.length ≤ 1000000) : p42au ⟨x.length, fun k => rE (gE x k), y⟩ = ⟨1, x.foldl (addIf y Ent.l) 0⟩ := by
  have h := lp_fold (step := st42a_0 ⟨x.length, fun k => rE (gE x k), (x.length : Int), y⟩) (enc := fun j a => ⟨a, (j : Int)⟩) (t := 1) x (addIf y Ent.l)
    (fun j acc hj => by
      simp only [st42a_0, su42a_0_0, dec_lt hj, inB_nat hj, W_next hj (show x.length ≤ 4611686018427387904 by omega), Int.toNat_natCast, p41u, p43]
      unfold addIf
      show sel true (sel true (sel true (sel ((gE x j).t == y) _ _) _) _) _ = _
      cases (gE x j).t == y <;> rfl)
    (fun acc => by simp only [st42a_0, su42a_0_0, dec_nlt (Nat.le_refl _)]) 0 (by omega)
  have h : lp (st42a_0 ⟨x.length, fun k => rE (gE x k), (x.length : Int), y⟩) ⟨0, 0⟩ = _ := h
  simp only [p42au, h]
  rfl
theorem sum42b (x : List Ent) (y : Int) (hb : x.length ≤ 1000000) : p42bu ⟨x.length, fun k => rE (gE x k), y⟩ = ⟨1, x.foldl (addIf y Ent.h) 0⟩ := by
  have h := lp_fold (step := st42b_0 ⟨x.length, fun k => rE (gE x k), (x.length : Int), y⟩) (enc := fun j a => ⟨a, (j : Int)⟩) (t := 1) x (addIf y Ent.h)
    (fun j acc hj => by
      simp only [st42b_0, su42b_0_0, dec_lt hj, inB_nat hj, W_next hj (show x.length ≤ 4611686018427387904 by omega), Int.toNat_natCast, p41u, p44]
      unfold addIf
      show sel true (sel true (sel true (sel ((gE x j).t == y) _ _) _) _) _ = _
      cases (gE x j).t == y <;> rfl)
    (fun acc => by simp only [st42b_0, su42b_0_0, dec_nlt (Nat.le_refl _)]) 0 (by omega)
  have h : lp (st42b_0 ⟨x.length, fun k => rE (gE x k), (x.length : Int), y⟩) ⟨0, 0⟩ = _ := h
  simp only [p42bu, h]
  rfl
noncomputable def pT (l : List Ent) (t : Int) : Int × Int × Int := tot l t
noncomputable def gT (l : List Ent) (_ : Int) : Bool := decide (l.length ≤ 1000000)
noncomputable def ST21 : Sum := sum2 cEL cI fun l t => .guard (gT l t) (.ret (.tup [i (pT l t).1, i (pT l t).2.1, i (pT l t).2.2], []))
@[reducible] noncomputable def ST20 : Sum := ST21
theorem sum2_le {α β : Type} {f : Nat} {c : Cod α} {d : Cod β} {k k' : α → β → DT (AVal × List ABlk)} (h : FnOk Try.prog G f (sum2 c d k)) (hk : ∀ a b r, (k' a b).run = some r → (k a b).run = some r) : FnOk Try.prog G f (sum2 c d k') := h.refine fun args blks r hr => ⟨args, ALes.refl _, by
  unfold sum2 at hr ⊢
  split at hr
  · obtain ⟨a, h1, hr⟩ := onO_some hr
    obtain ⟨b, h2, hr⟩ := onO_some hr
    obtain ⟨g1, hr⟩ := DT.run_guard_some hr
    obtain ⟨g2, hr⟩ := DT.run_guard_some hr
    simp only [h1, h2, onO, g1, g2]
    exact hk a b r hr
  · cases hr⟩
theorem okT20 : FnOk Try.prog G 20 ST20 := sum2_le ok20 fun l t r h => by
  obtain ⟨h1, rfl⟩ := grd_some h
  have hl := of_decide_eq_true h1
  have hg : gC l = true := decide_eq_true (by omega)
  have e : p20 l t = pT l t ∧ g20 l t = true := by
    unfold p20 g20 pT tot
    simp only [ls_id, ok_id, hg, pC, sum42a l t hl, sum42b l t hl]
    cases chk l != 0 <;> exact ⟨rfl, rfl⟩
  rw [e.1, e.2]
  rfl
end Go.Ev.W.X

