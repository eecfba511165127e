/- Back of a made frame, and back again (own work). -/
import Derived.Test.YthbcfinnphpcbaaDoorEvTP
set_option linter.unusedVariables false
set_option linter.unusedSimpArgs false
set_option linter.unnecessarySimpa false
set_option linter.unusedSectionVars false
namespace Go.Ev.T
open Go Go.Ev Go.Proofs
set_option maxRecDepth 100000

theorem sc_add (d : Int) (v u : V3) : sc d (addE v u) = addE (sc d v) (sc d u) := by
  simp only [sc, addE, V3.mk.injEq, Int.mul_add, and_self]
theorem sc_neg (d : Int) (v : V3) : sc d (negE v) = negE (sc d v) := by
  simp only [sc, negE, V3.mk.injEq, Int.mul_neg, and_self]
theorem mv_neg (m : M3) (v : V3) : mv m (negE v) = negE (mv m v) := by
  simp only [mv, negE, dotE, V3.mk.injEq]
  refine ⟨?_, ?_, ?_⟩ <;> grind
theorem neg_neg (v : V3) : negE (negE v) = v := by
  obtain ⟨x, y, z⟩ := v
  simp only [negE, Int.neg_neg]
theorem add_neg (v r : V3) : addE (addE v r) (negE r) = v := by
  obtain ⟨x, y, z⟩ := v
  simp only [addE, negE, V3.mk.injEq]
  refine ⟨?_, ?_, ?_⟩ <;> omega
theorem rowMost_le {d : Int} : rowMost d ≤ 11 := by unfold rowMost; split <;> (try omega); split <;> (try omega); split <;> omega
theorem Fine.d1 {t : Trn} (h : Fine t) : 1 ≤ t.d := by rcases h.d with e | e | e | e <;> omega
theorem mv_bound {t : Trn} (h : Fine t) {v : V3} {k : Nat} (hv : inV v k) : inV (mv t.m v) (rowMost t.d * k) :=
  ⟨dot_bound h.m0 hv, dot_bound h.m1 hv, dot_bound h.m2 hv⟩
theorem mvT_bound {t : Trn} (h : Fine t) {v : V3} {k : Nat} (hv : inV v k) : inV (mv (colE t.m) v) (rowMost t.d * k) :=
  ⟨dot_bound (r := ⟨t.m.r0.x, t.m.r1.x, t.m.r2.x⟩) h.k0 hv, dot_bound (r := ⟨t.m.r0.y, t.m.r1.y, t.m.r2.y⟩) h.k1 hv, dot_bound (r := ⟨t.m.r0.z, t.m.r1.z, t.m.r2.z⟩) h.k2 hv⟩
theorem le_mul_abs {d x : Int} (h : 1 ≤ d) : x.natAbs ≤ (d * x).natAbs := by
  rw [Int.natAbs_mul]
  exact Nat.le_mul_of_pos_left _ (by omega)
theorem sc_bound {d : Int} (hd : 1 ≤ d) {r : V3} {k : Nat} (h : inV (sc d r) k) : inV r k :=
  ⟨Nat.le_trans (le_mul_abs hd) h.1, Nat.le_trans (le_mul_abs hd) h.2.1, Nat.le_trans (le_mul_abs hd) h.2.2⟩
theorem inV_le {v : V3} {k n : Nat} (h : inV v k) (hk : k ≤ n) : inV v n := ⟨Nat.le_trans h.1 hk, Nat.le_trans h.2.1 hk, Nat.le_trans h.2.2 hk⟩
theorem p80_in {v : V3} (h : inV v 96) : p80 v = true := by
  unfold p80
  simp only [Bool.and_eq_true, Bool.not_eq_true', decide_eq_false_iff_not]
  unfold inV at h
  omega
theorem frame_ok {t : Trn} {s : V3} (ht : p12 t = true) (hs : inV s 96) : p56 ⟨t, s⟩ = true := by
  simp only [p56, p80_in hs, ht, Bool.and_self]

/-- Back, where the shift can be taken back -/
theorem back_ok {f : Frm} (hf : Fine f.t) (hs : inV f.s 4) {r : V3} (hr : mv (colE f.t.m) f.s = sc f.t.d r) : inV r 44 ∧ p18 f = (⟨⟨colE f.t.m, f.t.d⟩, negE r⟩, true) := by
  have hd := hf.d1
  have hb := mvT_bound hf hs
  have h11 := rowMost_le (d := f.t.d)
  have hr44 : inV r 44 := by
    refine sc_bound hd (k := 44) ?_
    rw [← hr]
    exact inV_le hb (by omega)
  have h56 : p56 f = true := frame_ok hf.val (inV_le hs (by omega))
  obtain ⟨h1, h2, h3⟩ := right_d h56
  have hT := valid_d hf.tval
  have e3 : p58 (p45 f.t.m) f.s = sc f.t.d r := by
    rw [← hr]
    exact p58_exact hT.2.2 h1 h2 (inV_le hs (by omega))
  have e4 := p57_exact hd (inV_le hr44 (n := 10000) (by omega))
  have e5 : p53 (⟨0, 0, 0⟩ : V3) r = negE r := by
    obtain ⟨a, c, e⟩ := hr44
    simp only [p53, negE]
    rw [W_id (by omega) (by omega), W_id (by omega) (by omega), W_id (by omega) (by omega)]
    simp
  have hn : inV (negE r) 44 := by
    obtain ⟨a, c, e⟩ := hr44
    exact ⟨by simpa [negE] using a, by simpa [negE] using c, by simpa [negE] using e⟩
  have e6 : p56 ⟨⟨p45 f.t.m, f.t.d⟩, negE r⟩ = true := frame_ok hf.tval (inV_le hn (by omega))
  refine ⟨hr44, ?_⟩
  simp only [p18, h56, e3, e4, e5, p59, e6]
  rfl
theorem back_some {f : Frm} (hf : Fine f.t) (hs : inV f.s 4) (h : (p18 f).2 = true) : ∃ r, mv (colE f.t.m) f.s = sc f.t.d r := by
  have h56 : p56 f = true := frame_ok hf.val (inV_le hs (by omega))
  obtain ⟨h1, h2, h3⟩ := right_d h56
  have hT := valid_d hf.tval
  have e3 : p58 (p45 f.t.m) f.s = mv (colE f.t.m) f.s := p58_exact hT.2.2 h1 h2 (inV_le hs (by omega))
  simp only [p18, h56, e3, Bool.and_eq_true, Bool.not_eq_true', Bool.not_eq_false'] at h
  have h4 : (p57 (mv (colE f.t.m) f.s) f.t.d).2 = true := h.2.1
  simp only [p57, Bool.and_eq_true, beq_iff_eq] at h4
  refine ⟨⟨Int.tdiv (mv (colE f.t.m) f.s).x f.t.d, Int.tdiv (mv (colE f.t.m) f.s).y f.t.d, Int.tdiv (mv (colE f.t.m) f.s).z f.t.d⟩, ?_⟩
  have hx := Int.tmod_add_mul_tdiv (mv (colE f.t.m) f.s).x f.t.d
  have hy := Int.tmod_add_mul_tdiv (mv (colE f.t.m) f.s).y f.t.d
  have hz := Int.tmod_add_mul_tdiv (mv (colE f.t.m) f.s).z f.t.d
  rw [h4.1] at hx
  rw [h4.2.1] at hy
  rw [h4.2.2] at hz
  simp only [sc]
  generalize mv (colE f.t.m) f.s = u at *
  obtain ⟨x, y, z⟩ := u
  simp only [V3.mk.injEq]
  exact ⟨by simpa using hx.symm, by simpa using hy.symm, by simpa using hz.symm⟩

/-- what Back returns sends each point back -/
theorem apply_back {f : Frm} (hf : Fine f.t) (hs : inV f.s 4) {r v q : V3} (hr : mv (colE f.t.m) f.s = sc f.t.d r) (hq : mv f.t.m v = sc f.t.d q) (hv : inV v 24) (hw : inV (addE q f.s) 24) :
    p22 ⟨⟨colE f.t.m, f.t.d⟩, negE r⟩ (addE q f.s) = (v, true) := by
  have hd := hf.d1
  obtain ⟨hr44, _⟩ := back_ok hf hs hr
  have hn : inV (negE r) 44 := by
    obtain ⟨a, c, e⟩ := hr44
    exact ⟨by simpa [negE] using a, by simpa [negE] using c, by simpa [negE] using e⟩
  have h56 : p56 ⟨⟨colE f.t.m, f.t.d⟩, negE r⟩ = true := frame_ok hf.tval (inV_le hn (by omega))
  have e1 : mv (colE f.t.m) q = sc f.t.d v := by
    apply sc_inj (d := f.t.d) (by omega)
    rw [← mv_sc, ← hq, mvT_mv hf.col, sc_sc]
  have e2 : mv (colE f.t.m) (addE q f.s) = sc f.t.d (addE v r) := by rw [mv_add, e1, hr, sc_add]
  have := apply_ok (f := ⟨⟨colE f.t.m, f.t.d⟩, negE r⟩) h56 (v := addE q f.s) (q := addE v r) hw e2 (inV_le hn (by omega)) (by rw [add_neg]; exact hv)
  rw [this, add_neg]
theorem colE_colE (m : M3) : colE (colE m) = m := rfl
/-- Back of what Back returns is the frame -/
theorem back_back {f : Frm} (hf : Fine f.t) (hs : inV f.s 4) {r : V3} (hr : mv (colE f.t.m) f.s = sc f.t.d r) : p18 ⟨⟨colE f.t.m, f.t.d⟩, negE r⟩ = (f, true) := by
  have hd := hf.d1
  obtain ⟨hr44, _⟩ := back_ok hf hs hr
  have hn : inV (negE r) 44 := by
    obtain ⟨a, c, e⟩ := hr44
    exact ⟨by simpa [negE] using a, by simpa [negE] using c, by simpa [negE] using e⟩
  have h56 : p56 ⟨⟨colE f.t.m, f.t.d⟩, negE r⟩ = true := frame_ok hf.tval (inV_le hn (by omega))
  obtain ⟨h1, h2, h3⟩ := valid_d hf.val
  have e1 : mv f.t.m r = sc f.t.d f.s := by
    apply sc_inj (d := f.t.d) (by omega)
    rw [← mv_sc, ← hr, mv_mvT hf.row, sc_sc]
  have e3 : p58 (p45 (colE f.t.m)) (negE r) = sc f.t.d (negE f.s) := by
    rw [sc_neg, ← e1, ← mv_neg]
    exact p58_exact h3 h1 h2 (inV_le hn (by omega))
  have hns : inV (negE f.s) 10000 := by
    obtain ⟨a, c, e⟩ := hs
    exact ⟨by simp [negE]; omega, by simp [negE]; omega, by simp [negE]; omega⟩
  have e4 := p57_exact hd hns
  have e5 : p53 (⟨0, 0, 0⟩ : V3) (negE f.s) = f.s := by
    obtain ⟨a, c, e⟩ := hs
    simp only [p53, negE]
    rw [W_id (by omega) (by omega), W_id (by omega) (by omega), W_id (by omega) (by omega)]
    simp
  have e6 : p56 ⟨⟨p45 (colE f.t.m), f.t.d⟩, f.s⟩ = true := frame_ok hf.val (inV_le hs (by omega))
  simp only [p18, h56, e3, e4, e5, p59, e6]
  rfl
end Go.Ev.T
