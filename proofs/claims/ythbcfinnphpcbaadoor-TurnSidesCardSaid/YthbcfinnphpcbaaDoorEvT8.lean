/- Plain facts: a rotation is valid for the program exactly if it is for the reference (own work). -/
import Derived.Test.YthbcfinnphpcbaaDoorEvT6
set_option linter.unusedVariables false
set_option linter.unusedSimpArgs false
set_option linter.unnecessarySimpa false
set_option linter.unusedSectionVars false
namespace Go.Ev.T
open Go Go.Ev Go.Proofs

theorem W_eq (n : Int) : W n = (n + 9223372036854775808) % 18446744073709551616 - 9223372036854775808 := IntKind.wrap_i64 n
theorem W_id {n : Int} (h1 : -9223372036854775808 ≤ n) (h2 : n ≤ 9223372036854775807) : W n = n := by rw [W_eq]; omega
theorem W_lo (n : Int) : -9223372036854775808 ≤ W n := by rw [W_eq]; omega
theorem W_hi (n : Int) : W n ≤ 9223372036854775807 := by rw [W_eq]; omega
theorem W_off (n : Int) : ∃ k, W n = n + 18446744073709551616 * k := ⟨-((n + 9223372036854775808) / 18446744073709551616), by rw [W_eq]; omega⟩
theorem W_add_off (n k : Int) : W (n + 18446744073709551616 * k) = W n := by rw [W_eq, W_eq]; omega
theorem W_W (n : Int) : W (W n) = W n := W_id (W_lo n) (W_hi n)
theorem W_addL (a b : Int) : W (W a + b) = W (a + b) := by
  obtain ⟨k, h⟩ := W_off a
  rw [h, show a + 18446744073709551616 * k + b = a + b + 18446744073709551616 * k by omega, W_add_off]
theorem W_addR (a b : Int) : W (a + W b) = W (a + b) := by rw [Int.add_comm, W_addL, Int.add_comm]
theorem W_subL (a b : Int) : W (W a - b) = W (a - b) := by
  obtain ⟨k, h⟩ := W_off a
  rw [h, show a + 18446744073709551616 * k - b = a - b + 18446744073709551616 * k by omega, W_add_off]
theorem W_subR (a b : Int) : W (a - W b) = W (a - b) := by
  obtain ⟨k, h⟩ := W_off b
  rw [h, show a - (b + 18446744073709551616 * k) = a - b + 18446744073709551616 * (-k) by omega, W_add_off]
theorem W_mulL (a b : Int) : W (W a * b) = W (a * b) := by
  obtain ⟨k, h⟩ := W_off a
  rw [h, Int.add_mul, Int.mul_assoc, W_add_off]
theorem W_mulR (a b : Int) : W (a * W b) = W (a * b) := by rw [Int.mul_comm, W_mulL, Int.mul_comm]
theorem W_0add (a : Int) : W (0 + a) = W a := by rw [Int.zero_add]
theorem W_1mul (a : Int) : W (1 * a) = W a := by rw [Int.one_mul]
theorem W_0mul (a : Int) : W (0 * a) = 0 := by rw [Int.zero_mul]; rfl

theorem and_left {p q q' : Bool} (h : p = true → q = q') : (p && q) = (p && q') := by
  cases p
  · rfl
  · simpa using h rfl

theorem gcdP_pos : ∀ (n : Nat) {g a : Int}, a.toNat ≤ n → 1 ≤ g → 1 ≤ (gcdP g a).1
  | n, g, a, hn, hg => by
    by_cases h : a > 0
    · have hl := tmod_less (g := g) h
      cases n with
      | zero => omega
      | succ n => rw [gcdP_next h]; exact gcdP_pos n (by omega) (by omega)
    · rw [gcdP_stop h]; exact hg
theorem gcdP_pos' {g a : Int} (hg : 1 ≤ g) : 1 ≤ (gcdP g a).1 := gcdP_pos _ (Nat.le_refl _) hg

/-- all elements within a bound -/
def inM (m : M3) (d : Int) : Prop := (-d ≤ m.r0.x ∧ m.r0.x ≤ d) ∧ (-d ≤ m.r0.y ∧ m.r0.y ≤ d) ∧ (-d ≤ m.r0.z ∧ m.r0.z ≤ d) ∧ (-d ≤ m.r1.x ∧ m.r1.x ≤ d) ∧ (-d ≤ m.r1.y ∧ m.r1.y ≤ d) ∧ (-d ≤ m.r1.z ∧ m.r1.z ≤ d) ∧ (-d ≤ m.r2.x ∧ m.r2.x ≤ d) ∧ (-d ≤ m.r2.y ∧ m.r2.y ≤ d) ∧ (-d ≤ m.r2.z ∧ m.r2.z ≤ d)
theorem in42 {m : M3} {d : Int} (h1 : 1 ≤ d) (h2 : d ≤ 25) (h : p42 m d = true) : inM m d := by
  unfold p42 at h
  rw [W_id (n := 0 - d) (by omega) (by omega)] at h
  simp only [Bool.and_eq_true, Bool.not_eq_true', decide_eq_false_iff_not] at h
  obtain ⟨a1, a2, a3, a4, a5, a6, a7, a8, a9, a10, a11, a12, a13, a14, a15, a16, a17, a18⟩ := h
  refine ⟨?_, ?_, ?_, ?_, ?_, ?_, ?_, ?_, ?_⟩ <;> constructor <;> omega
theorem abs_bound {x d : Int} (h1 : -d ≤ x) (h2 : x ≤ d) (h3 : d ≤ 25) : p78 x ≤ 25 := by
  unfold p78
  split
  · rw [W_id (by omega) (by omega)]; omega
  · omega
theorem abs_self {d : Int} (h1 : 1 ≤ d) (h2 : d ≤ 25) : p78 d = d := by
  unfold p78
  rw [W_id (n := 0 - d) (by omega) (by omega), if_neg (by omega)]

theorem det_eq (m : M3) : p47 m = p49 (p51 m.r0 m.r1) m.r2 := by
  simp only [p47, p54, p55, p49, p51, W_addL, W_addR, W_subL, W_subR, W_mulL, W_mulR]
  congr 1
  grind

theorem red_eq {d g : Int} (h1 : 1 ≤ d) (h2 : d ≤ 25) (hg : 1 ≤ g) : (W (Int.tdiv d g) == d) = (g == 1) := by
  rw [Int.tdiv_eq_ediv_of_nonneg (by omega)]
  have h3 : 0 ≤ d / g := Int.ediv_nonneg (by omega) (by omega)
  have h4 : d / g ≤ d := Int.ediv_le_self _ (by omega)
  rw [W_id (by omega) (by omega)]
  by_cases h : g = 1
  · subst h; simp
  · have h5 : d / g < d := Int.ediv_lt_self_of_pos_of_ne_one (by omega) h
    have : d / g ≠ d := by omega
    rw [beq_eq_false_iff_ne.2 this, beq_eq_false_iff_ne.2 h]

theorem valid_eq (t : Trn) : p12 t = p13 t := by
  unfold p12 p13
  refine and_left fun h1 => and_left fun h2 => ?_
  simp only [Bool.not_eq_true', decide_eq_false_iff_not] at h1 h2
  have e48 : p48 t = p42 t.m t.d := rfl
  rw [e48]
  refine and_left fun h3 => ?_
  simp only [Bool.not_not] at h3
  have hd1 : 1 ≤ t.d := by omega
  have hd2 : t.d ≤ 25 := by omega
  have hdet := det_eq t.m
  have hgcd : ((p43 t.m t.d).2 == t.d) = (p52 t == 1) := by
    have hs := abs_self hd1 hd2
    have e : p52 t = (gcdP (gcdP (gcdP (gcdP (gcdP (gcdP (gcdP (gcdP (gcdP t.d (p78 t.m.r0.x)).1 (p78 t.m.r0.y)).1 (p78 t.m.r0.z)).1 (p78 t.m.r1.x)).1 (p78 t.m.r1.y)).1 (p78 t.m.r1.z)).1 (p78 t.m.r2.x)).1 (p78 t.m.r2.y)).1 (p78 t.m.r2.z)).1 := by
      unfold p52 p79
      rw [hs]
    have e2 : (p43 t.m t.d).2 = W (Int.tdiv t.d (p52 t)) := by rw [e]; rfl
    rw [e2]
    refine red_eq hd1 hd2 ?_
    rw [e]; exact gcdP_pos' (gcdP_pos' (gcdP_pos' (gcdP_pos' (gcdP_pos' (gcdP_pos' (gcdP_pos' (gcdP_pos' (gcdP_pos' hd1))))))))
  have a0 : (p44 t.m (p45 t.m)).r0.x = p49 t.m.r0 t.m.r0 := by simp only [p44, p45, p49, W_addL, W_addR, W_0add]
  have a1 : (p44 t.m (p45 t.m)).r0.y = p49 t.m.r0 t.m.r1 := by simp only [p44, p45, p49, W_addL, W_addR, W_0add]
  have a2 : (p44 t.m (p45 t.m)).r0.z = p49 t.m.r0 t.m.r2 := by simp only [p44, p45, p49, W_addL, W_addR, W_0add]
  have a3 : (p44 t.m (p45 t.m)).r1.x = p49 t.m.r1 t.m.r0 := by simp only [p44, p45, p49, W_addL, W_addR, W_0add]
  have a4 : (p44 t.m (p45 t.m)).r1.y = p49 t.m.r1 t.m.r1 := by simp only [p44, p45, p49, W_addL, W_addR, W_0add]
  have a5 : (p44 t.m (p45 t.m)).r1.z = p49 t.m.r1 t.m.r2 := by simp only [p44, p45, p49, W_addL, W_addR, W_0add]
  have a6 : (p44 t.m (p45 t.m)).r2.x = p49 t.m.r2 t.m.r0 := by simp only [p44, p45, p49, W_addL, W_addR, W_0add]
  have a7 : (p44 t.m (p45 t.m)).r2.y = p49 t.m.r2 t.m.r1 := by simp only [p44, p45, p49, W_addL, W_addR, W_0add]
  have a8 : (p44 t.m (p45 t.m)).r2.z = p49 t.m.r2 t.m.r2 := by simp only [p44, p45, p49, W_addL, W_addR, W_0add]
  have b5 : p46 (⟨(⟨1, 0, 0⟩ : V3), (⟨0, 1, 0⟩ : V3), (⟨0, 0, 1⟩ : V3)⟩ : M3) (W (t.d * t.d)) = ⟨⟨W (t.d * t.d), 0, 0⟩, ⟨0, W (t.d * t.d), 0⟩, ⟨0, 0, W (t.d * t.d)⟩⟩ := by
    simp only [p46, W_1mul, W_0mul, W_W]
  simp only [a0, a1, a2, a3, a4, a5, a6, a7, a8, b5, hdet, hgcd, bne, Bool.not_not, Bool.and_assoc, Bool.and_true, Bool.true_and]

/-! ### the guards hold -/
theorem g43_ok {t : Trn} (h1 : 1 ≤ t.d) (h2 : t.d ≤ 25) (h : inM t.m t.d) : g43 t.m t.d = true := by
  obtain ⟨b0, b1, b2, b3, b4, b5, b6, b7, b8⟩ := h
  have c0 := abs_bound b0.1 b0.2 h2
  have c1 := abs_bound b1.1 b1.2 h2
  have c2 := abs_bound b2.1 b2.2 h2
  have c3 := abs_bound b3.1 b3.2 h2
  have c4 := abs_bound b4.1 b4.2 h2
  have c5 := abs_bound b5.1 b5.2 h2
  have c6 := abs_bound b6.1 b6.2 h2
  have c7 := abs_bound b7.1 b7.2 h2
  have c8 := abs_bound b8.1 b8.2 h2
  have hp := gcdP_pos' (a := p78 t.m.r2.z) (gcdP_pos' (a := p78 t.m.r2.y) (gcdP_pos' (a := p78 t.m.r2.x) (gcdP_pos' (a := p78 t.m.r1.z) (gcdP_pos' (a := p78 t.m.r1.y) (gcdP_pos' (a := p78 t.m.r1.x) (gcdP_pos' (a := p78 t.m.r0.z) (gcdP_pos' (a := p78 t.m.r0.y) (gcdP_pos' (a := p78 t.m.r0.x) h1))))))))
  have lt : ∀ {x : Int}, x ≤ 25 → decide (x < 9223372036854775808) = true := fun h => decide_eq_true (by omega)
  unfold g43
  simp only [Bool.and_eq_true]
  refine ⟨lt c0, lt c1, lt c2, lt c3, lt c4, lt c5, lt c6, lt c7, lt c8, ?_⟩
  have : ∀ {x : Int}, 1 ≤ x → (!(x == 0)) = true := fun h => by
    rw [beq_eq_false_iff_ne.2 (by omega)]; rfl
  exact this hp
theorem g12_ok (t : Trn) : g12 t = true := by
  unfold g12
  by_cases h1 : t.d < 1
  · rw [decide_eq_true h1]; rfl
  by_cases h2 : t.d > 25
  · simp only [decide_eq_true h2, Bool.true_or, Bool.or_true]
  cases h3 : p42 t.m t.d with
  | false => simp
  | true =>
    have := g43_ok (t := t) (by omega) (by omega) (in42 (by omega) (by omega) h3)
    simp only [this, Bool.or_true]
theorem g52_ok {t : Trn} (h1 : 1 ≤ t.d) (h2 : t.d ≤ 25) (h : inM t.m t.d) : g52 t = true := by
  obtain ⟨b0, b1, b2, b3, b4, b5, b6, b7, b8⟩ := h
  have lt : ∀ {g x : Int}, x ≤ 25 → g79 g x = true := fun h => decide_eq_true (by omega)
  unfold g52
  simp only [Bool.and_eq_true]
  exact ⟨lt (abs_bound b0.1 b0.2 h2), lt (abs_bound b1.1 b1.2 h2), lt (abs_bound b2.1 b2.2 h2), lt (abs_bound b3.1 b3.2 h2), lt (abs_bound b4.1 b4.2 h2), lt (abs_bound b5.1 b5.2 h2), lt (abs_bound b6.1 b6.2 h2), lt (abs_bound b7.1 b7.2 h2), lt (abs_bound b8.1 b8.2 h2)⟩
theorem g13_ok (t : Trn) : g13 t = true := by
  unfold g13
  by_cases h1 : t.d < 1
  · rw [decide_eq_true h1]; rfl
  by_cases h2 : t.d > 25
  · simp only [decide_eq_true h2, Bool.true_or, Bool.or_true]
  have e48 : p48 t = p42 t.m t.d := rfl
  rw [e48]
  cases h3 : p42 t.m t.d with
  | false => simp
  | true =>
    have := g52_ok (t := t) (by omega) (by omega) (in42 (by omega) (by omega) h3)
    simp only [this, Bool.or_true]
end Go.Ev.T
