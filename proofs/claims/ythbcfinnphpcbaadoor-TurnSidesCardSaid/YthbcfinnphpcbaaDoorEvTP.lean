/- What Back computes for a made frame (own work). -/
import Derived.Test.YthbcfinnphpcbaaDoorEvTO
set_option linter.unusedVariables false
set_option linter.unusedSimpArgs false
set_option linter.unnecessarySimpa false
set_option linter.unusedSectionVars false
namespace Go.Ev.T
open Go Go.Ev Go.Proofs
set_option maxRecDepth 100000

/-- a rotation of a made frame -/
structure Fine (t : Trn) : Prop where
  d : t.d = 1 ∨ t.d = 3 ∨ t.d = 5 ∨ t.d = 7
  row : orthB t.m (t.d * t.d) = true
  col : orthB (colE t.m) (t.d * t.d) = true
  m0 : t.m.r0.x.natAbs + t.m.r0.y.natAbs + t.m.r0.z.natAbs ≤ rowMost t.d
  m1 : t.m.r1.x.natAbs + t.m.r1.y.natAbs + t.m.r1.z.natAbs ≤ rowMost t.d
  m2 : t.m.r2.x.natAbs + t.m.r2.y.natAbs + t.m.r2.z.natAbs ≤ rowMost t.d
  k0 : t.m.r0.x.natAbs + t.m.r1.x.natAbs + t.m.r2.x.natAbs ≤ rowMost t.d
  k1 : t.m.r0.y.natAbs + t.m.r1.y.natAbs + t.m.r2.y.natAbs ≤ rowMost t.d
  k2 : t.m.r0.z.natAbs + t.m.r1.z.natAbs + t.m.r2.z.natAbs ≤ rowMost t.d
  val : p12 t = true
  tval : p12 ⟨p45 t.m, t.d⟩ = true
  one : p43 (p44 (p45 t.m) t.m) (W (t.d * t.d)) = (one3, 1)

theorem eqV_eq {a c : V3} (h : eqV a c = true) : a = c := by
  obtain ⟨x, y, z⟩ := a
  obtain ⟨x', y', z'⟩ := c
  simp only [eqV, Bool.and_eq_true, beq_iff_eq] at h
  obtain ⟨rfl, rfl, rfl⟩ := h
  rfl
theorem eqM_eq {a c : M3} (h : eqM a c = true) : a = c := by
  obtain ⟨x, y, z⟩ := a
  obtain ⟨x', y', z'⟩ := c
  simp only [eqM, Bool.and_eq_true] at h
  obtain ⟨h1, h2, h3⟩ := h
  rw [show x = x' from eqV_eq h1, show y = y' from eqV_eq h2, show z = z' from eqV_eq h3]
theorem fine_of {t : Trn} (h : chk t = true) : Fine t := by
  unfold chk at h
  simp only [Bool.and_eq_true, Bool.or_eq_true, beq_iff_eq] at h
  obtain ⟨h1, h2, h3, h4, h5, h6, h7, h8, h9, h10, h11, h12, h13⟩ := h
  refine ⟨h1, h2, h3, Nat.le_of_ble_eq_true h4, Nat.le_of_ble_eq_true h5, Nat.le_of_ble_eq_true h6, Nat.le_of_ble_eq_true h7, Nat.le_of_ble_eq_true h8, Nat.le_of_ble_eq_true h9, by rw [valid_eq]; exact h10, by rw [valid_eq]; exact h11, ?_⟩
  exact Prod.ext (eqM_eq h12) h13
theorem fine_fr {a : Int} {k : Nat} (ha : 0 ≤ a ∧ a < 8) (hk : k < 24) : Fine (frA a k).1.t := by
  have h := List.all_eq_true.1 chk_all a.toNat (by simp; omega)
  have h := List.all_eq_true.1 h k (by simpa using hk)
  rw [Int.toNat_of_nonneg ha.1] at h
  exact fine_of h

theorem mix (a b c d e f g k l x y z u v w : Int) : u * (a * x + b * y + c * z) + v * (d * x + e * y + f * z) + w * (g * x + k * y + l * z) = x * (u * a + v * d + w * g) + y * (u * b + v * e + w * k) + z * (u * c + v * f + w * l) := by grind
theorem pick1 (q x y z : Int) : x * q + y * 0 + z * 0 = q * x := by simp [Int.mul_comm]
theorem pick2 (q x y z : Int) : x * 0 + y * q + z * 0 = q * y := by simp [Int.mul_comm]
theorem pick3 (q x y z : Int) : x * 0 + y * 0 + z * q = q * z := by simp [Int.mul_comm]
theorem mvT_mv {t : Trn} (h : orthB (colE t.m) (t.d * t.d) = true) (v : V3) : mv (colE t.m) (mv t.m v) = sc (t.d * t.d) v := by
  obtain ⟨⟨⟨a, b, c⟩, ⟨d, e, f⟩, ⟨g, k, l⟩⟩, n⟩ := t
  obtain ⟨x, y, z⟩ := v
  simp only [orthB, colE, dotE, Bool.and_eq_true, beq_iff_eq] at h
  obtain ⟨h1, h2, h3, h4, h5, h6⟩ := h
  have h4' : b * a + e * d + k * g = 0 := by rw [Int.mul_comm b, Int.mul_comm e, Int.mul_comm k]; exact h4
  have h5' : c * a + f * d + l * g = 0 := by rw [Int.mul_comm c, Int.mul_comm f, Int.mul_comm l]; exact h5
  have h6' : c * b + f * e + l * k = 0 := by rw [Int.mul_comm c, Int.mul_comm f, Int.mul_comm l]; exact h6
  simp only [mv, colE, dotE, sc, V3.mk.injEq]
  refine ⟨?_, ?_, ?_⟩ <;> rw [mix] <;> simp only [h1, h2, h3, h4, h5, h6, h4', h5', h6', pick1, pick2, pick3]
theorem mv_mvT {t : Trn} (h : orthB t.m (t.d * t.d) = true) (v : V3) : mv t.m (mv (colE t.m) v) = sc (t.d * t.d) v := by
  obtain ⟨⟨⟨a, b, c⟩, ⟨d, e, f⟩, ⟨g, k, l⟩⟩, n⟩ := t
  obtain ⟨x, y, z⟩ := v
  simp only [orthB, dotE, Bool.and_eq_true, beq_iff_eq] at h
  obtain ⟨h1, h2, h3, h4, h5, h6⟩ := h
  have h4' : d * a + e * b + f * c = 0 := by rw [Int.mul_comm d, Int.mul_comm e, Int.mul_comm f]; exact h4
  have h5' : g * a + k * b + l * c = 0 := by rw [Int.mul_comm g, Int.mul_comm k, Int.mul_comm l]; exact h5
  have h6' : g * d + k * e + l * f = 0 := by rw [Int.mul_comm g, Int.mul_comm k, Int.mul_comm l]; exact h6
  simp only [mv, colE, dotE, sc, V3.mk.injEq]
  refine ⟨?_, ?_, ?_⟩ <;> rw [mix] <;> simp only [h1, h2, h3, h4, h5, h6, h4', h5', h6', pick1, pick2, pick3]
theorem mv_sc (m : M3) (d : Int) (v : V3) : mv m (sc d v) = sc d (mv m v) := by
  obtain ⟨x, y, z⟩ := v
  simp only [mv, sc, dotE, V3.mk.injEq]
  refine ⟨?_, ?_, ?_⟩ <;> grind
theorem mv_add (m : M3) (v u : V3) : mv m (addE v u) = addE (mv m v) (mv m u) := by
  simp only [mv, addE, dotE, V3.mk.injEq]
  refine ⟨?_, ?_, ?_⟩ <;> grind
theorem sc_sc (d e : Int) (v : V3) : sc d (sc e v) = sc (d * e) v := by
  simp only [sc, V3.mk.injEq, Int.mul_assoc, and_self]
theorem sc_inj {d : Int} (hd : d ≠ 0) {v u : V3} (h : sc d v = sc d u) : v = u := by
  obtain ⟨x, y, z⟩ := v
  obtain ⟨x', y', z'⟩ := u
  simp only [sc, V3.mk.injEq] at h ⊢
  exact ⟨Int.eq_of_mul_eq_mul_left hd h.1, Int.eq_of_mul_eq_mul_left hd h.2.1, Int.eq_of_mul_eq_mul_left hd h.2.2⟩
end Go.Ev.T
