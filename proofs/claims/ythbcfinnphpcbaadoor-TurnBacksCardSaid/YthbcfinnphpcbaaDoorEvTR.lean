/- After of made frames (own work). -/
import Derived.Test.YthbcfinnphpcbaaDoorEvTQ
set_option linter.unusedVariables false
set_option linter.unusedSimpArgs false
set_option linter.unnecessarySimpa false
set_option linter.unusedSectionVars false
namespace Go.Ev.T
open Go Go.Ev Go.Proofs
set_option maxRecDepth 100000

theorem one_ok : p56 ⟨⟨one3, 1⟩, ⟨0, 0, 0⟩⟩ = true := by kernel_rfl
theorem apply_one {v : V3} (hv : inV v 24) : p22 ⟨⟨one3, 1⟩, ⟨0, 0, 0⟩⟩ v = (v, true) := by
  have e1 : mv one3 v = sc 1 v := by
    simp only [mv, one3, dotE, sc, V3.mk.injEq]
    refine ⟨?_, ?_, ?_⟩ <;> omega
  have e2 : addE v ⟨0, 0, 0⟩ = v := by simp only [addE, Int.add_zero]
  have := apply_ok (f := ⟨⟨one3, 1⟩, ⟨0, 0, 0⟩⟩) one_ok (v := v) (q := v) hv e1 ⟨by simp, by simp, by simp⟩ (by rw [e2]; exact hv)
  rw [this, e2]
theorem after_back {f : Frm} (hf : Fine f.t) (hs : inV f.s 4) {r : V3} (hr : mv (colE f.t.m) f.s = sc f.t.d r) : p20 f ⟨⟨colE f.t.m, f.t.d⟩, negE r⟩ = (⟨⟨one3, 1⟩, ⟨0, 0, 0⟩⟩, true) := by
  have hd := hf.d1
  obtain ⟨hr44, _⟩ := back_ok hf hs hr
  have hn : inV (negE r) 44 := by
    obtain ⟨a, c, e⟩ := hr44
    exact ⟨by simpa [negE] using a, by simpa [negE] using c, by simpa [negE] using e⟩
  have h56 : p56 f = true := frame_ok hf.val (inV_le hs (by omega))
  have h57 : p56 ⟨⟨colE f.t.m, f.t.d⟩, negE r⟩ = true := frame_ok hf.tval (inV_le hn (by omega))
  obtain ⟨h1, h2, h3⟩ := valid_d hf.tval
  have e3 : p58 (colE f.t.m) f.s = sc f.t.d r := by
    rw [← hr]
    exact p58_exact h3 h1 h2 (inV_le hs (by omega))
  have e4 := p57_exact hd (inV_le hr44 (n := 10000) (by omega))
  have e5 : p65 r (negE r) = ⟨0, 0, 0⟩ := by
    obtain ⟨x, y, z⟩ := r
    obtain ⟨a, c, e⟩ := hr44
    rw [p65_exact (inV_le ⟨a, c, e⟩ (by omega)) (inV_le hn (by omega))]
    simp only [addE, negE, V3.mk.injEq]
    refine ⟨?_, ?_, ?_⟩ <;> omega
  have e6 : p43 (p44 (colE f.t.m) f.t.m) (W (f.t.d * f.t.d)) = (one3, 1) := hf.one
  simp only [p20, h56, h57, e3, e4, e5, e6, p59, one_ok]
  rfl

/-! ### the common divisor divides -/
theorem gcdP_dvd {g a : Int} (hg : 0 ≤ g) (ha : 0 ≤ a) : (gcdP g a).1 ∣ g ∧ (gcdP g a).1 ∣ a := by
  rw [gcdP_nat _ (Nat.le_refl _) hg ha]
  exact ⟨Int.gcd_dvd_left .., Int.gcd_dvd_right ..⟩
theorem abs_nat {x : Int} (h : x.natAbs ≤ 1000000) : p78 x = (x.natAbs : Int) := by
  unfold p78
  rw [W_id (n := 0 - x) (by omega) (by omega)]
  split <;> omega
theorem dvd_of_abs {c x : Int} (h : c ∣ p78 x) (hx : x.natAbs ≤ 1000000) : c ∣ x := by
  rw [abs_nat hx] at h
  exact Int.dvd_natAbs.1 h
/-- the common divisor divides all -/
structure Divs (c : Int) (m : M3) (d : Int) : Prop where
  pos : 1 ≤ c
  d : c ∣ d
  e0 : c ∣ m.r0.x
  e1 : c ∣ m.r0.y
  e2 : c ∣ m.r0.z
  e3 : c ∣ m.r1.x
  e4 : c ∣ m.r1.y
  e5 : c ∣ m.r1.z
  e6 : c ∣ m.r2.x
  e7 : c ∣ m.r2.y
  e8 : c ∣ m.r2.z
def boundM (m : M3) (n : Nat) : Prop := inV m.r0 n ∧ inV m.r1 n ∧ inV m.r2 n
theorem common_divs {t : Trn} (h1 : 1 ≤ t.d) (h2 : t.d ≤ 9223372036854775807) (hb : boundM t.m 1000000) : Divs (p52 t) t.m t.d := by
  rw [common_eq h1 h2]
  obtain ⟨⟨b0, b1, b2⟩, ⟨b3, b4, b5⟩, ⟨b6, b7, b8⟩⟩ := hb
  have nn : ∀ {x : Int}, x.natAbs ≤ 1000000 → 0 ≤ p78 x := fun h => by rw [abs_nat h]; omega
  have s : ∀ {g x : Int}, 1 ≤ g → x.natAbs ≤ 1000000 → 1 ≤ (gcdP g (p78 x)).1 ∧ (gcdP g (p78 x)).1 ∣ g ∧ (gcdP g (p78 x)).1 ∣ x := fun {g x} hg hx => by
    obtain ⟨d1, d2⟩ := gcdP_dvd (g := g) (a := p78 x) (by omega) (nn hx)
    exact ⟨gcdP_pos' hg, d1, dvd_of_abs d2 hx⟩
  obtain ⟨p0, q0, r0⟩ := s h1 b0
  obtain ⟨p1, q1, r1⟩ := s p0 b1
  obtain ⟨p2, q2, r2⟩ := s p1 b2
  obtain ⟨p3, q3, r3⟩ := s p2 b3
  obtain ⟨pd, q4, r4⟩ := s p3 b4
  obtain ⟨p5, q5, r5⟩ := s pd b5
  obtain ⟨p6, q6, r6⟩ := s p5 b6
  obtain ⟨p7, q7, r7⟩ := s p6 b7
  obtain ⟨p8, q8, r8⟩ := s p7 b8
  have t7 := Int.dvd_trans q8 q7
  have t6 := Int.dvd_trans t7 q6
  have t5 := Int.dvd_trans t6 q5
  have t4 := Int.dvd_trans t5 q4
  have t3 := Int.dvd_trans t4 q3
  have t2 := Int.dvd_trans t3 q2
  have t1 := Int.dvd_trans t2 q1
  have t0 := Int.dvd_trans t1 q0
  exact ⟨p8, t0, Int.dvd_trans t1 r0, Int.dvd_trans t2 r1, Int.dvd_trans t3 r2, Int.dvd_trans t4 r3, Int.dvd_trans t5 r4, Int.dvd_trans t6 r5, Int.dvd_trans t7 r6, Int.dvd_trans q8 r7, r8⟩

def mulE (a c : M3) : M3 := ⟨⟨dotE a.r0 (colE c).r0, dotE a.r0 (colE c).r1, dotE a.r0 (colE c).r2⟩, ⟨dotE a.r1 (colE c).r0, dotE a.r1 (colE c).r1, dotE a.r1 (colE c).r2⟩, ⟨dotE a.r2 (colE c).r0, dotE a.r2 (colE c).r1, dotE a.r2 (colE c).r2⟩⟩
theorem mv_mul (a c : M3) (v : V3) : mv (mulE a c) v = mv a (mv c v) := by
  simp only [mv, mulE, colE, dotE, V3.mk.injEq]
  refine ⟨?_, ?_, ?_⟩ <;> grind
def scM (d : Int) (m : M3) : M3 := ⟨sc d m.r0, sc d m.r1, sc d m.r2⟩
theorem mv_scM (d : Int) (m : M3) (v : V3) : mv (scM d m) v = sc d (mv m v) := by
  simp only [mv, scM, sc, dotE, V3.mk.injEq]
  refine ⟨?_, ?_, ?_⟩ <;> grind
theorem mul_bound {f g : Trn} (hf : Fine f) (hg : Fine g) : boundM (mulE g.m f.m) 121 := by
  have hf11 := rowMost_le (d := f.d)
  have hg11 := rowMost_le (d := g.d)
  have c0 : inV (colE f.m).r0 11 := by have := hf.k0; exact ⟨by simp only [colE]; omega, by simp only [colE]; omega, by simp only [colE]; omega⟩
  have c1 : inV (colE f.m).r1 11 := by have := hf.k1; exact ⟨by simp only [colE]; omega, by simp only [colE]; omega, by simp only [colE]; omega⟩
  have c2 : inV (colE f.m).r2 11 := by have := hf.k2; exact ⟨by simp only [colE]; omega, by simp only [colE]; omega, by simp only [colE]; omega⟩
  have m0 := Nat.le_trans hg.m0 hg11
  have m1 := Nat.le_trans hg.m1 hg11
  have m2 := Nat.le_trans hg.m2 hg11
  exact ⟨⟨dot_bound m0 c0, dot_bound m0 c1, dot_bound m0 c2⟩, ⟨dot_bound m1 c0, dot_bound m1 c1, dot_bound m1 c2⟩, ⟨dot_bound m2 c0, dot_bound m2 c1, dot_bound m2 c2⟩⟩
theorem p44_exact {f g : Trn} (hf : Fine f) (hg : Fine g) : p44 g.m f.m = mulE g.m f.m := by
  obtain ⟨⟨b0, b1, b2⟩, ⟨b3, b4, b5⟩, ⟨b6, b7, b8⟩⟩ := mul_bound hf hg
  simp only [mulE, colE, dotE] at b0 b1 b2 b3 b4 b5 b6 b7 b8
  simp only [p44, W_addL, W_addR, W_0add, mulE, colE, dotE]
  rw [W_id (by omega) (by omega), W_id (by omega) (by omega), W_id (by omega) (by omega), W_id (by omega) (by omega), W_id (by omega) (by omega), W_id (by omega) (by omega), W_id (by omega) (by omega), W_id (by omega) (by omega), W_id (by omega) (by omega)]
end Go.Ev.T
