/- WearSums, as a plain fact (own work). -/
import Derived.Test.YtblhkhjdkjjheaaEvXF
set_option linter.unusedVariables false
set_option linter.unusedSimpArgs false
set_option linter.unnecessarySimpa false
set_option linter.unusedSectionVars false
namespace Go.Ev.W.X
open Go Go.Ev Go.Ev.W Go.Proofs
set_option maxRecDepth 100000
theorem cost_same (x y : Int) : p22 x y = p23 x y := by
  unfold p22 p23
  by_cases h1 : x < 0
  · rw [decide_eq_true h1, decide_eq_false (show ¬ x ≥ 0 by omega)]
  · rw [decide_eq_false h1, decide_eq_true (show x ≥ 0 by omega)]
    by_cases h2 : x > 1048576
    · rw [decide_eq_true h2, decide_eq_false (show ¬ x ≤ 1048576 by omega)]; rfl
    · rw [decide_eq_false h2, decide_eq_true (show x ≤ 1048576 by omega)]
      by_cases h3 : y < 0
      · rw [decide_eq_true h3]; rfl
      · rw [decide_eq_false h3]
        by_cases h4 : y > 100
        · rw [decide_eq_true h4]; rfl
        · rw [decide_eq_false h4]
          have hb : 0 ≤ x * y ∧ x * y ≤ 104857600 := by
            constructor
            · exact Int.mul_nonneg (by omega) (by omega)
            · have := Int.mul_le_mul (show x ≤ 1048576 by omega) (show y ≤ 100 by omega) (by omega) (by omega)
              omega
          rw [W_id (n := x * y) (by omega) (by omega), W_id (n := x * y + 10) (by omega) (by omega), show x * y + 10 - 1 = x * y + 9 by omega]
          rfl
theorem merge_len (a b : List Ent) : (merge a b).1.length ≤ a.length + b.length := by
  unfold merge
  have := mrg_len a b
  cases chk a != 0 with
  | true => simp [sel]
  | false =>
    cases chk b != 0 with
    | true => simp [sel]
    | false =>
      cases decide (100 < (mrg a b).length) with
      | true => simp [sel]
      | false =>
        cases (mrg a b).any fun u => decide (u.l > u.h) with
        | true => simp [sel]
        | false => exact this
theorem same_self {l : List Ent} (h : l.length ≤ 1000000) : p16 l l = true ∧ g16 l l = true := by
  obtain ⟨h1, h2⟩ := same16 l l (by omega)
  exact ⟨by rw [h1]; exact decide_eq_true rfl, h2⟩
theorem gM_ok {a b : List Ent} (h1 : a.length ≤ 1000) (h2 : b.length ≤ 1000) : gM a b = true := by
  unfold gM
  rw [decide_eq_true h1, decide_eq_true h2]; rfl
theorem law4 (x : J2) (y : Q2) (z : Int) (w : D2) : p4 x y z w = true ∧ g4 x y z w = true := by
  have ga := g10_of (isJ_of x.a)
  have gb := g10_of (isJ_of x.b)
  have ha := (made10 ⟨x.a.length, fun k => rJ (gJ x.a k)⟩).len
  have hb := (made10 ⟨x.b.length, fun k => rJ (gJ x.b k)⟩).len
  unfold p4 g4
  simp only [ga, gb, ls_id, ok_id]
  generalize p10 ⟨x.a.length, fun k => rJ (gJ x.a k)⟩ = a at *
  generalize p10 ⟨x.b.length, fun k => rJ (gJ x.b k)⟩ = b at *
  have hc := len11 a y.a (by omega)
  have hd := len11 b y.b (by omega)
  have g11a : g11 a y.a = true := decide_eq_true (by omega)
  have g11b : g11 b y.b = true := decide_eq_true (by omega)
  generalize p11 a y.a = c at *
  generalize p11 b y.b = d at *
  have s1 := same_self (l := (pM a b).1) (by have : (pM a b).1.length ≤ _ := merge_len a b; omega)
  have s2 := same_self (l := (pM c b).1) (by have : (pM c b).1.length ≤ _ := merge_len c b; omega)
  have s3 := same_self (l := (pM a d).1) (by have : (pM a d).1.length ≤ _ := merge_len a d; omega)
  have s4 := same_self (l := (pM c d).1) (by have : (pM c d).1.length ≤ _ := merge_len c d; omega)
  have t1 : ∀ t, gT a t = true := fun t => decide_eq_true (by omega)
  have t2 : ∀ t, gT c t = true := fun t => decide_eq_true (by omega)
  simp only [g11a, g11b, s1, s2, s3, s4, t1, t2, cost_same, bne_self_eq_false, gM_ok (show a.length ≤ 1000 by omega) (show b.length ≤ 1000 by omega), gM_ok hc (show b.length ≤ 1000 by omega), gM_ok (show a.length ≤ 1000 by omega) hd, gM_ok hc hd,
    g19_ok z (b := 4) (by omega), g19_ok w.a (b := 50) (by omega), g19_ok w.b (b := 102) (by omega)]
  exact ⟨rfl, rfl⟩
theorem law4S (x : J2) (y : Q2) (z : Int) (w : D2) : (S4 [eJJ x, eQ y, i z, eD w] []).run = some (b true, []) := by
  obtain ⟨x', h1, _⟩ := exactCod_dec eJJ x
  have h1 : cJJ.dec (eJJ x) = some x' := h1
  obtain ⟨h2, h3⟩ := law4 x' y z w
  unfold S4 sum4
  simp only [h1]
  show (DT.guard true (DT.guard true (DT.guard true (DT.guard true (DT.guard (g4 x' y z w) (.ret (b (p4 x' y z w), []))))))).run = _
  rw [h2, h3]
  rfl
end Go.Ev.W.X
