/- TurnBacks, as a plain fact (own work). -/
import Derived.Test.YthbcfinnphpcbaaDoorEvTS
import Derived.Test.YthbcfinnphpcbaaDoorEvTI
set_option linter.unusedVariables false
set_option linter.unusedSimpArgs false
set_option linter.unnecessarySimpa false
set_option linter.unusedSectionVars false
namespace Go.Ev.T
open Go Go.Ev Go.Proofs
set_option maxRecDepth 100000

theorem g22_ok (f : Frm) (v : V3) : g22 f v = true := by
  simp only [g22, g56_ok, Bool.true_and]
  cases h : p56 f with
  | false => rfl
  | true => rw [g57_ok _ (right_d h).1]; simp
theorem dd_ok {f g : Trn} (hf : Fine f) (hg : Fine g) : W (f.d * g.d) = f.d * g.d ∧ 1 ≤ f.d * g.d ∧ f.d * g.d ≤ 49 := by
  have : 1 ≤ f.d * g.d ∧ f.d * g.d ≤ 49 := by
    rcases hf.d with e | e | e | e <;> rcases hg.d with e' | e' | e' | e' <;> rw [e, e'] <;> decide
  exact ⟨W_id (by omega) (by omega), this.1, this.2⟩
/-- a number made a multiple -/
theorem mult {t n : Int} (ht : 0 ≤ t ∧ t < 9) (h1 : 1 ≤ n) (h2 : n ≤ 49) : ∃ u, W (W (Int.tdiv (W (t - 4)) n) * n) = n * u ∧ (n * u).natAbs ≤ 4 := by
  rw [W_id (n := t - 4) (by omega) (by omega)]
  have ha : (Int.tdiv (t - 4) n).natAbs ≤ 4 := by
    rw [Int.natAbs_tdiv]
    exact Nat.le_trans (Nat.div_le_self _ _) (by omega)
  rw [W_id (n := Int.tdiv (t - 4) n) (by omega) (by omega)]
  have hb : (n * Int.tdiv (t - 4) n).natAbs ≤ 4 := by
    rw [Int.natAbs_mul, Int.natAbs_tdiv]
    exact Nat.le_trans (Nat.mul_div_le _ _) (by omega)
  refine ⟨Int.tdiv (t - 4) n, ?_, hb⟩
  rw [Int.mul_comm, W_id (by omega) (by omega)]
theorem prod1 : ((List.range 24).all fun k => (List.range 24).all fun m => p12 ⟨(p43 (p44 (frA 3 m).1.t.m (frA 3 k).1.t.m) (W ((frA 3 k).1.t.d * (frA 3 m).1.t.d))).1, (p43 (p44 (frA 3 m).1.t.m (frA 3 k).1.t.m) (W ((frA 3 k).1.t.d * (frA 3 m).1.t.d))).2⟩) = true := by kernel_rfl
theorem not1 : ((List.range 3).all fun a => (List.range 24).all fun k => (frA a k).1.t.d != 1) = true := by kernel_rfl
theorem same3 (k : Nat) : frA 4 k = frA 3 k ∧ frA 5 k = frA 3 k ∧ frA 6 k = frA 3 k ∧ frA 7 k = frA 3 k := ⟨by kernel_rfl, by kernel_rfl, by kernel_rfl, by kernel_rfl⟩
end Go.Ev.T
