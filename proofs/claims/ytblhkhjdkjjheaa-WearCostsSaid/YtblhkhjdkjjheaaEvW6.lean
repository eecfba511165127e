/- WearCosts, as a plain fact (own work). -/
import Derived.Test.YtblhkhjdkjjheaaEvW4
set_option linter.unusedVariables false
set_option linter.unusedSimpArgs false
set_option linter.unnecessarySimpa false
set_option linter.unusedSectionVars false
namespace Go.Ev.W
open Go Go.Ev Go.Proofs
theorem W_eq (n : Int) : W n = (n + 9223372036854775808) % 18446744073709551616 - 9223372036854775808 := IntKind.wrap_i64 n
theorem W_id {n : Int} (h1 : -9223372036854775808 ≤ n) (h2 : n ≤ 9223372036854775807) : W n = n := by rw [W_eq]; omega
theorem cost_eq {n f : Int} (h1 : 0 ≤ n ∧ n ≤ 10000) (h2 : 0 ≤ f ∧ f ≤ 100) : p22t n f = ((n * f + 9) / 10, 0) := by
  have hb : 0 ≤ n * f ∧ n * f ≤ 1000000 := by
    constructor
    · exact Int.mul_nonneg h1.1 h2.1
    · have := Int.mul_le_mul h1.2 h2.2 h2.1 (by omega)
      omega
  unfold p22t
  rw [decide_eq_true h1.1, decide_eq_true (show n ≤ 1048576 by omega), decide_eq_false (show ¬ f < 0 by omega), decide_eq_false (show ¬ f > 100 by omega)]
  rw [W_id (n := n * f) (by omega) (by omega), W_id (n := n * f + 10) (by omega) (by omega), W_id (n := n * f + 10 - 1) (by omega) (by omega)]
  rw [Int.tdiv_eq_ediv_of_nonneg (by omega), show n * f + 10 - 1 = n * f + 9 by omega, W_id (by omega) (by omega)]
  rfl
theorem costs_true (x : X2) (y : U2) (h1 : 0 ≤ x.a ∧ x.a ≤ 65535) (h2 : 0 ≤ x.b ∧ x.b ≤ 65535) (h3 : 0 ≤ y.a ∧ y.a ≤ 255) (h4 : 0 ≤ y.b ∧ y.b ≤ 255) : p8 x y = true := by
  have rng : ∀ {a m b : Int}, 0 ≤ a ∧ a ≤ b → b ≤ 65535 → 0 < m → 0 ≤ Int.tmod (W a) m ∧ Int.tmod (W a) m < m := fun {a m b} ha hb hm => by
    rw [W_id (by omega) (by omega)]
    exact ⟨Int.tmod_nonneg _ ha.1, Int.tmod_lt_of_pos _ hm⟩
  have n1 := rng h1 (by omega) (show (0 : Int) < 5000 by omega)
  have n2 := rng h2 (by omega) (show (0 : Int) < 5000 by omega)
  have f1 := rng h3 (by omega) (show (0 : Int) < 101 by omega)
  have f2 := rng h4 (by omega) (show (0 : Int) < 101 by omega)
  unfold p8
  generalize Int.tmod (W x.a) 5000 = n at n1 ⊢
  generalize Int.tmod (W x.b) 5000 = m at n2 ⊢
  generalize Int.tmod (W y.a) 101 = f at f1 ⊢
  generalize Int.tmod (W y.b) 101 = e at f2 ⊢
  have hmax : ∃ q, (if e > f then e else f) = q ∧ f ≤ q ∧ q ≤ 100 := by
    refine ⟨_, rfl, ?_⟩
    split <;> omega
  obtain ⟨q, hq, hq1, hq2⟩ := hmax
  have b1 : 0 ≤ n * f ∧ n * f ≤ 1000000 := ⟨Int.mul_nonneg n1.1 f1.1, by have := Int.mul_le_mul (show n ≤ 10000 by omega) (show f ≤ 100 by omega) f1.1 (by omega); omega⟩
  have b2 : 0 ≤ m * f ∧ m * f ≤ 1000000 := ⟨Int.mul_nonneg n2.1 f1.1, by have := Int.mul_le_mul (show m ≤ 10000 by omega) (show f ≤ 100 by omega) f1.1 (by omega); omega⟩
  have b3 : n * f ≤ n * q := Int.mul_le_mul_of_nonneg_left hq1 n1.1
  have b4 : (n + m) * f = n * f + m * f := Int.add_mul _ _ _
  have b5 : n * q ≤ 1000000 := by have := Int.mul_le_mul (show n ≤ 10000 by omega) (show q ≤ 100 by omega) (by omega) (by omega); omega
  simp only [hq, W_id (n := n + m) (by omega) (by omega), cost_eq (n := n) (f := f) (by omega) (by omega), cost_eq (n := m) (f := f) (by omega) (by omega), cost_eq (n := n + m) (f := f) (by omega) (by omega), cost_eq (n := n) (f := q) (by omega) (by omega)]
  rw [b4]
  generalize n * f = u at *
  generalize m * f = v at *
  generalize n * q = t at *
  rw [W_id (n := 10 * ((u + 9) / 10)) (by omega) (by omega), W_id (n := u) (by omega) (by omega), W_id (n := (u + 9) / 10 - 1) (by omega) (by omega), W_id (n := 10 * ((u + 9) / 10 - 1)) (by omega) (by omega),
    W_id (n := (u + 9) / 10 + (v + 9) / 10) (by omega) (by omega), W_id (n := (u + v + 9) / 10 + 1) (by omega) (by omega)]
  rw [decide_eq_true (show 10 * ((u + 9) / 10) ≥ u by omega), decide_eq_true (show 10 * ((u + 9) / 10 - 1) < u by omega), decide_eq_true (show (u + v + 9) / 10 ≤ (u + 9) / 10 + (v + 9) / 10 by omega),
    decide_eq_true (show (u + 9) / 10 + (v + 9) / 10 ≤ (u + v + 9) / 10 + 1 by omega), decide_eq_true (show (u + v + 9) / 10 ≥ (u + 9) / 10 by omega), decide_eq_true (show (t + 9) / 10 ≥ (u + 9) / 10 by omega)]
  rfl
theorem law8 (x : X2) (y : U2) (h1 : 0 ≤ x.a ∧ x.a ≤ 65535) (h2 : 0 ≤ x.b ∧ x.b ≤ 65535) (h3 : 0 ≤ y.a ∧ y.a ≤ 255) (h4 : 0 ≤ y.b ∧ y.b ≤ 255) : (S8 [cX.enc x, cU.enc y] []).run = some (b true, []) := by
  have e : (S8 [cX.enc x, cU.enc y] []).run = some (b (p8 x y), []) := by kernel_rfl
  rw [e, costs_true x y h1 h2 h3 h4]
end Go.Ev.W
