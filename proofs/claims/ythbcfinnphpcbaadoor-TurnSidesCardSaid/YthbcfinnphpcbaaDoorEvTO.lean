/- What Apply computes, in exact numbers (own work). -/
import Derived.Test.YthbcfinnphpcbaaDoorEvTN
set_option linter.unusedVariables false
set_option linter.unusedSimpArgs false
set_option linter.unnecessarySimpa false
set_option linter.unusedSectionVars false
namespace Go.Ev.T
open Go Go.Ev Go.Proofs
set_option maxRecDepth 100000

def mv (m : M3) (v : V3) : V3 := ⟨dotE m.r0 v, dotE m.r1 v, dotE m.r2 v⟩
def sc (d : Int) (v : V3) : V3 := ⟨d * v.x, d * v.y, d * v.z⟩
def addE (a c : V3) : V3 := ⟨a.x + c.x, a.y + c.y, a.z + c.z⟩
def negE (a : V3) : V3 := ⟨-a.x, -a.y, -a.z⟩
/-- all components within a bound -/
def inV (v : V3) (n : Nat) : Prop := v.x.natAbs ≤ n ∧ v.y.natAbs ≤ n ∧ v.z.natAbs ≤ n

theorem dot_bound {r v : V3} {n k : Nat} (h : r.x.natAbs + r.y.natAbs + r.z.natAbs ≤ n) (hv : inV v k) : (dotE r v).natAbs ≤ n * k := by
  have h1 : (r.x * v.x).natAbs ≤ r.x.natAbs * k := by rw [Int.natAbs_mul]; exact Nat.mul_le_mul_left _ hv.1
  have h2 : (r.y * v.y).natAbs ≤ r.y.natAbs * k := by rw [Int.natAbs_mul]; exact Nat.mul_le_mul_left _ hv.2.1
  have h3 : (r.z * v.z).natAbs ≤ r.z.natAbs * k := by rw [Int.natAbs_mul]; exact Nat.mul_le_mul_left _ hv.2.2
  have h4 : (r.x.natAbs + r.y.natAbs + r.z.natAbs) * k ≤ n * k := Nat.mul_le_mul_right _ h
  rw [Nat.add_mul, Nat.add_mul] at h4
  unfold dotE
  omega
theorem inM_row {m : M3} {d : Int} (h : inM m d) (h1 : 1 ≤ d) (h2 : d ≤ 25) : m.r0.x.natAbs + m.r0.y.natAbs + m.r0.z.natAbs ≤ 75 ∧ m.r1.x.natAbs + m.r1.y.natAbs + m.r1.z.natAbs ≤ 75 ∧ m.r2.x.natAbs + m.r2.y.natAbs + m.r2.z.natAbs ≤ 75 := by
  obtain ⟨b0, b1, b2, b3, b4, b5, b6, b7, b8⟩ := h
  omega
theorem p58_exact {m : M3} {d : Int} (h : inM m d) (h1 : 1 ≤ d) (h2 : d ≤ 25) {v : V3} (hv : inV v 100) : p58 m v = mv m v := by
  obtain ⟨c0, c1, c2⟩ := inM_row h h1 h2
  have e0 := dot_bound c0 hv
  have e1 := dot_bound c1 hv
  have e2 := dot_bound c2 hv
  unfold dotE at e0 e1 e2
  simp only [p58, mv, dotE, W_addL, W_addR]
  rw [W_id (by omega) (by omega), W_id (by omega) (by omega), W_id (by omega) (by omega)]
theorem p68_in {v : V3} : p68 v = true ↔ inV v 24 := by
  unfold p68 p74b
  rw [W_id (n := 0 - 24) (by omega) (by omega)]
  simp only [Bool.and_eq_true, Bool.not_eq_true', decide_eq_false_iff_not]
  unfold inV
  omega
theorem div_mul {d q : Int} (hd : d ≠ 0) : Int.tmod (d * q) d = 0 ∧ Int.tdiv (d * q) d = q := ⟨Int.mul_tmod_right d q, Int.mul_tdiv_cancel_left q hd⟩
theorem p57_exact {d : Int} (hd : 1 ≤ d) {q : V3} (hq : inV q 10000) : p57 (sc d q) d = (q, true) := by
  have hx := div_mul (d := d) (q := q.x) (by omega)
  have hy := div_mul (d := d) (q := q.y) (by omega)
  have hz := div_mul (d := d) (q := q.z) (by omega)
  obtain ⟨a, c, e⟩ := hq
  simp only [p57, sc, hx.1, hx.2, hy.1, hy.2, hz.1, hz.2]
  rw [W_id (by omega) (by omega), W_id (by omega) (by omega), W_id (by omega) (by omega)]
  rfl
theorem p65_exact {a c : V3} (ha : inV a 10000) (hc : inV c 10000) : p65 a c = addE a c := by
  obtain ⟨a1, a2, a3⟩ := ha
  obtain ⟨c1, c2, c3⟩ := hc
  simp only [p65, addE]
  rw [W_id (by omega) (by omega), W_id (by omega) (by omega), W_id (by omega) (by omega)]
/-- Apply -/
theorem apply_ok {f : Frm} (hf : p56 f = true) {v q : V3} (hv : inV v 24) (hq : mv f.t.m v = sc f.t.d q) (hs : inV f.s 100) (hin : inV (addE q f.s) 24) : p22 f v = (addE q f.s, true) := by
  obtain ⟨h1, h2, h3⟩ := right_d hf
  have hv2 : inV v 100 := ⟨by have := hv.1; omega, by have := hv.2.1; omega, by have := hv.2.2; omega⟩
  have hq2 : inV q 10000 := by
    obtain ⟨a, c, e⟩ := hin
    obtain ⟨a', c', e'⟩ := hs
    simp only [addE] at a c e
    exact ⟨by omega, by omega, by omega⟩
  have hs2 : inV f.s 10000 := ⟨by have := hs.1; omega, by have := hs.2.1; omega, by have := hs.2.2; omega⟩
  have e1 := p58_exact h3 h1 h2 hv2
  have e2 : p68 v = true := p68_in.2 hv
  have e3 : p68 (addE q f.s) = true := p68_in.2 hin
  simp only [p22, hf, e2, e1, hq, p57_exact h1 hq2, p65_exact hq2 hs2, e3]
  rfl
end Go.Ev.T
