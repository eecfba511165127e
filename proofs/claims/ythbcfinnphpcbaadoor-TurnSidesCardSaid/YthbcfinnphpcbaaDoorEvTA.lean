/- Plain facts: made frames, odd rotations (own work). -/
import Derived.Test.YthbcfinnphpcbaaDoorEvT8
import Derived.Test.YthbcfinnphpcbaaDoorEvT7
set_option linter.unusedVariables false
set_option linter.unusedSimpArgs false
set_option linter.unnecessarySimpa false
set_option linter.unusedSectionVars false
namespace Go.Ev.T
open Go Go.Ev Go.Proofs
set_option maxRecDepth 100000

theorem mod_range {a b : Int} (hb : 0 < b) (hb2 : b < 1000) : 0 ≤ p17 a b ∧ p17 a b < b := by
  unfold p17
  rw [show decide (b < 1) = false from decide_eq_false (by omega)]
  have h1 : Int.tmod a b < b := Int.tmod_lt_of_pos a hb
  have h2 : -b < Int.tmod a b := Int.lt_tmod_of_pos a hb
  show 0 ≤ Int.tmod (W (Int.tmod a b + b)) b ∧ Int.tmod (W (Int.tmod a b + b)) b < b
  rw [W_id (by omega) (by omega)]
  exact ⟨Int.tmod_nonneg _ (by omega), Int.tmod_lt_of_pos _ hb⟩
theorem g17_ok (a : Int) {b : Int} (hb : 0 < b) : g17 a b = true := by
  unfold g17
  rw [show (b == 0) = false from beq_eq_false_iff_ne.2 (by omega)]
  simp

theorem inB_nat {j n : Nat} (h : j < n) : inB (j : Int) n = true := by
  show Nat.blt j n = true
  rw [Nat.blt_eq]; exact h
theorem sel_l {α : Type} {c : Bool} {x y r : α} (h : c = true) (k : x = r) : sel c x y = r := by rw [h]; exact k
theorem sel_r {α : Type} {c : Bool} {x y r : α} (h : c = false) (k : y = r) : sel c x y = r := by rw [h]; exact k
theorem draw_ok {m : Int} (hm : 0 < m) (hm2 : m < 1000) (l : IL) {c : Int} (hc : 0 ≤ c ∧ c ≤ 1000) : ∃ v c', p40u ⟨m, l.n, fun k => [i (l.g k)], c⟩ = ⟨1, v, c'⟩ ∧ (c ≤ c' ∧ c' ≤ c + 1) ∧ 0 ≤ v ∧ v < m := by
  unfold p40u
  simp only
  by_cases h : c ≥ (l.n : Int)
  · exact ⟨0, c, sel_l (decide_eq_true h) rfl, by omega, by omega, by omega⟩
  · have e1 : W (W (c + 1) - 1) = c := by rw [W_id (n := c + 1) (by omega) (by omega), W_id (by omega) (by omega)]; omega
    have e2 : inB c l.n = true := by
      obtain ⟨k, rfl⟩ := Int.eq_ofNat_of_zero_le hc.1
      exact inB_nat (by omega)
    rw [e1]
    have hr := mod_range (a := toI (hdA [i (l.g c.toNat)])) hm hm2
    refine ⟨_, _, sel_r (decide_eq_false h) (sel_l e2 (sel_l rfl (sel_l (g17_ok _ hm) rfl))), ?_, hr.1, hr.2⟩
    rw [W_id (by omega) (by omega)]
    omega
theorem vec_ok {m : Int} (hm : 0 < m) (hm2 : m < 400) (l : IL) {c : Int} (hc : 0 ≤ c ∧ c ≤ 900) : ∃ x y z c', p41u ⟨m, l.n, fun k => [i (l.g k)], c⟩ = ⟨1, x, y, z, c'⟩ ∧ (c ≤ c' ∧ c' ≤ c + 3) ∧ (-m ≤ x ∧ x ≤ m) ∧ (-m ≤ y ∧ y ≤ m) ∧ -m ≤ z ∧ z ≤ m := by
  have e : W (W (2 * m) + 1) = 2 * m + 1 := by rw [W_id (n := 2 * m) (by omega) (by omega), W_id (by omega) (by omega)]
  obtain ⟨x, c1, h1, h2, h3⟩ := draw_ok (m := 2 * m + 1) (by omega) (by omega) l (c := c) (by omega)
  obtain ⟨y, c2, h4, h5, h6⟩ := draw_ok (m := 2 * m + 1) (by omega) (by omega) l (c := c1) (by omega)
  obtain ⟨z, c3, h7, h8, h9⟩ := draw_ok (m := 2 * m + 1) (by omega) (by omega) l (c := c2) (by omega)
  refine ⟨W (x - m), W (y - m), W (z - m), c3, ?_, by omega, ?_, ?_, ?_⟩
  · unfold p41u
    simp only [e, h1, h4, h7]
    rfl
  · rw [W_id (by omega) (by omega)]; omega
  · rw [W_id (by omega) (by omega)]; omega
  · rw [W_id (by omega) (by omega)]; omega
theorem three {t : Int} (h : 0 ≤ t ∧ t < 3) : t = 0 ∨ t = 1 ∨ t = 2 := by omega
theorem g11_ok (x : Trn) (y : V3) : g11 x y = true := by
  unfold g11 p11u ut11
  have h1 := three (mod_range (a := y.y) (b := 3) (by omega) (by omega))
  have h2 := three (mod_range (a := W (Int.tdiv y.y 3)) (b := 3) (by omega) (by omega))
  simp only [g17_ok y.y (b := 3) (by omega), g17_ok (W (Int.tdiv y.y 3)) (b := 3) (by omega), g17_ok y.x (b := 5) (by omega), g17_ok y.z (b := 4) (by omega), Bool.true_and]
  generalize p17 y.y 3 = t1 at *
  generalize p17 (W (Int.tdiv y.y 3)) 3 = t2 at *
  generalize p17 y.x 5 = t3 at *
  generalize p17 y.z 4 = t4 at *
  generalize (t3 == 0) = c0
  generalize (t3 == 1) = c1
  generalize (t3 == 2) = c2
  generalize (t3 == 3) = c3
  generalize (t3 == 4) = c4
  rcases h1 with rfl | rfl | rfl <;> rcases h2 with rfl | rfl | rfl <;> cases c0 <;> cases c1 <;> cases c2 <;> cases c3 <;> cases c4 <;> rfl

/-- a rotation out of the table -/
noncomputable def rowT (k : Nat) : Trn :=
  let r := dropN (getRow tab15_0 k) 0
  ⟨⟨⟨toI (hdA r), toI (hdA (tlA r)), toI (hdA (tlA (tlA r)))⟩, ⟨toI (hdA (tlA (tlA (tlA r)))), toI (hdA (tlA (tlA (tlA (tlA r))))), toI (hdA (tlA (tlA (tlA (tlA (tlA r))))))⟩,
    ⟨toI (hdA (tlA (tlA (tlA (tlA (tlA (tlA r))))))), toI (hdA (tlA (tlA (tlA (tlA (tlA (tlA (tlA r)))))))), toI (hdA (tlA (tlA (tlA (tlA (tlA (tlA (tlA (tlA r)))))))))⟩⟩,
    toI (hdA (tlA (tlA (tlA (tlA (tlA (tlA (tlA (tlA (tlA r))))))))))⟩
noncomputable def frA (a : Int) (k : Nat) : Frm × Bool := p21 ⟨p39 a, ⟨0, 0, 0⟩⟩ ⟨rowT k, ⟨0, 0, 0⟩⟩
noncomputable def frG (a : Int) (k : Nat) : Bool := g21 ⟨p39 a, ⟨0, 0, 0⟩⟩ ⟨rowT k, ⟨0, 0, 0⟩⟩
theorem fr_all : ((List.range 8).all fun a => (List.range 24).all fun k => p13 (frA a k).1.t && frG a k) = true := by kernel_rfl
end Go.Ev.T
