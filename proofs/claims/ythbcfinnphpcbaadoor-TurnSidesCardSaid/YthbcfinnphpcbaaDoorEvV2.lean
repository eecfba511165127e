/- Planes that are moved, in exact numbers (own work). -/
import Derived.Test.YthbcfinnphpcbaaDoorEvTQ
import Derived.Test.YthbcfinnphpcbaaDoorEvU4
set_option linter.unusedVariables false
set_option linter.unusedSimpArgs false
set_option linter.unnecessarySimpa false
set_option linter.unusedSectionVars false
namespace Go.Ev.T
open Go Go.Ev Go.Proofs
set_option maxRecDepth 100000

/-! ### the greatest common divisor of a vector -/
def gcd3 (v : V3) : Nat := Nat.gcd (Nat.gcd v.x.natAbs v.y.natAbs) v.z.natAbs
theorem gcd3_dvd (v : V3) : (gcd3 v : Int) ∣ v.x ∧ (gcd3 v : Int) ∣ v.y ∧ (gcd3 v : Int) ∣ v.z := by
  have h1 : gcd3 v ∣ Nat.gcd v.x.natAbs v.y.natAbs := Nat.gcd_dvd_left _ _
  refine ⟨Int.ofNat_dvd_left.2 (Nat.dvd_trans h1 (Nat.gcd_dvd_left _ _)), Int.ofNat_dvd_left.2 (Nat.dvd_trans h1 (Nat.gcd_dvd_right _ _)), Int.ofNat_dvd_left.2 (Nat.gcd_dvd_right _ _)⟩
theorem dvd_gcd3 {g : Nat} {v : V3} (h1 : (g : Int) ∣ v.x) (h2 : (g : Int) ∣ v.y) (h3 : (g : Int) ∣ v.z) : g ∣ gcd3 v :=
  Nat.dvd_gcd (Nat.dvd_gcd (Int.ofNat_dvd_left.1 h1) (Int.ofNat_dvd_left.1 h2)) (Int.ofNat_dvd_left.1 h3)
theorem gcd3_sc (g : Nat) (n : V3) : gcd3 (sc g n) = g * gcd3 n := by
  unfold gcd3 sc
  simp only [Int.natAbs_mul, Int.natAbs_natCast, Nat.gcd_mul_left]
theorem gcd3_neg (v : V3) : gcd3 (negE v) = gcd3 v := by
  unfold gcd3 negE
  simp only [Int.natAbs_neg]
theorem gcd3_split (v : V3) : ∃ n, v = sc (gcd3 v) n := by
  obtain ⟨⟨a, h1⟩, ⟨c, h2⟩, ⟨e, h3⟩⟩ := gcd3_dvd v
  refine ⟨⟨a, c, e⟩, ?_⟩
  obtain ⟨x, y, z⟩ := v
  simp only [sc, V3.mk.injEq]
  exact ⟨h1, h2, h3⟩
theorem abs84 {x : Int} (h : x.natAbs ≤ 1000000) : p84 x = (x.natAbs : Int) := by
  unfold p84
  rw [W_id (by omega) (by omega)]
  split <;> omega
theorem gcdP_g {g a : Nat} : (gcdP (g : Int) (a : Int)) = ((Nat.gcd g a : Int), 0) := by
  rw [gcdP_nat a (by omega) (by omega) (by omega)]
  rfl
theorem p75_eq {v : V3} (h : inV v 1000000) : p75 v = (gcd3 v : Int) := by
  obtain ⟨h1, h2, h3⟩ := h
  have e : ∀ {x : Int}, x.natAbs ≤ 1000000 → (x == -9223372036854775808) = false := fun {x} hx => beq_eq_false_iff_ne.2 (by omega)
  have e0 : gcdP 0 (v.x.natAbs : Int) = ((v.x.natAbs : Int), 0) := by
    have := gcdP_g (g := 0) (a := v.x.natAbs)
    rw [Nat.gcd_zero_left] at this
    exact this
  simp only [p75, abs84 h1, abs84 h2, abs84 h3, e h1, e h2, e h3, e0, gcdP_g]
  rfl
theorem p71_zero {v : V3} (h : inV v 1000000) (h0 : gcd3 v = 0) : (p71 v).2 = 0 := by
  simp only [p71, p75_eq h, h0]
  rfl
theorem p71_some {v n : V3} (h : inV v 1000000) (h0 : gcd3 v ≠ 0) (hn : v = sc (gcd3 v) n) : p71 v = (n, (gcd3 v : Int)) := by
  have hg : ((gcd3 v : Int) == 0) = false := beq_eq_false_iff_ne.2 (by omega)
  have hb : ∀ a : Int, ((gcd3 v : Int) * a).natAbs ≤ 1000000 → W (Int.tdiv ((gcd3 v : Int) * a) (gcd3 v : Int)) = a := fun a ha => by
    rw [Int.mul_tdiv_cancel_left a (by omega)]
    have := le_mul_abs (d := (gcd3 v : Int)) (x := a) (by omega)
    exact W_id (by omega) (by omega)
  have e1 : v.x = (gcd3 v : Int) * n.x := congrArg V3.x hn
  have e2 : v.y = (gcd3 v : Int) * n.y := congrArg V3.y hn
  have e3 : v.z = (gcd3 v : Int) * n.z := congrArg V3.z hn
  obtain ⟨h1, h2, h3⟩ := h
  have f1 := hb n.x (by rw [← e1]; exact h1)
  have f2 := hb n.y (by rw [← e2]; exact h2)
  have f3 := hb n.z (by rw [← e3]; exact h3)
  rw [← e1] at f1
  rw [← e2] at f2
  rw [← e3] at f3
  simp only [p71, p75_eq ⟨h1, h2, h3⟩, hg, f1, f2, f3]
/-! ### valid planes -/
theorem p34_iff {y : Pln} : p34 y = true ↔ inV y.n 4608 ∧ gcd3 y.n = 1 ∧ y.b.natAbs ≤ 2097152 := by
  have e : p74a 2097152 y.b = true ↔ y.b.natAbs ≤ 2097152 := by
    unfold p74a
    rw [w21]
    simp only [Bool.and_eq_true, Bool.not_eq_true', decide_eq_false_iff_not]
    omega
  have e2 : p74b 4608 y.n = true ↔ inV y.n 4608 := by
    unfold p74b inV
    rw [w4608]
    simp only [Bool.and_eq_true, Bool.not_eq_true', decide_eq_false_iff_not]
    omega
  simp only [p34, Bool.and_eq_true]
  rw [e, e2]
  constructor
  · rintro ⟨h1, h2, h3⟩
    rw [p75_eq (inV_le h1 (by omega))] at h2
    have : (gcd3 y.n : Int) = 1 := by simpa using h2
    exact ⟨h1, by omega, h3⟩
  · rintro ⟨h1, h2, h3⟩
    rw [p75_eq (inV_le h1 (by omega)), h2]
    exact ⟨h1, rfl, h3⟩
def flip (x : Pln) : Pln := ⟨negE x.n, -x.b⟩
theorem flip_flip (x : Pln) : flip (flip x) = x := by
  obtain ⟨⟨a, c, d⟩, e⟩ := x
  simp [flip, negE]
theorem inV_neg {v : V3} {k : Nat} (h : inV v k) : inV (negE v) k := by
  obtain ⟨a, c, d⟩ := h
  unfold inV negE
  simp only [Int.natAbs_neg]
  exact ⟨a, c, d⟩
theorem p34_flip {x : Pln} (h : p34 x = true) : p34 (flip x) = true := by
  rw [p34_iff] at h ⊢
  obtain ⟨h1, h2, h3⟩ := h
  exact ⟨inV_neg h1, by rw [← h2]; exact gcd3_neg _, by show (-x.b).natAbs ≤ _; rw [Int.natAbs_neg]; exact h3⟩
theorem p33_eq {x : Pln} (h1 : inV x.n 1000000) (h2 : x.b.natAbs ≤ 1000000000) : p33 x = flip x := by
  obtain ⟨⟨a, c, d⟩, e⟩ := x
  obtain ⟨k1, k2, k3⟩ := h1
  simp only at k1 k2 k3 h2
  simp only [p33, p53, flip, negE, Int.zero_sub]
  rw [W_id (n := -a) (by omega) (by omega), W_id (n := -c) (by omega) (by omega), W_id (n := -d) (by omega) (by omega), W_id (n := -e) (by omega) (by omega)]
/-! ### Plane -/
structure Moved (f : Frm) (x y : Pln) (g : Int) (c : Int) : Prop where
  pos : 1 ≤ g
  nor : mv f.t.m x.n = sc g y.n
  off : f.t.d * x.b = g * c
  b : y.b = c + dotE y.n f.s
  val : p34 y = true
structure Small (x : Pln) : Prop where
  n : inV x.n 512
  b : x.b.natAbs ≤ 20000
theorem Small.flip {x : Pln} (h : Small x) : Small (flip x) := ⟨inV_neg h.n, by show (-x.b).natAbs ≤ _; rw [Int.natAbs_neg]; exact h.b⟩
theorem p58_wide {m : M3} {d : Int} (h : inM m d) (h1 : 1 ≤ d) (h2 : d ≤ 25) {v : V3} (hv : inV v 5000) : p58 m v = mv m v := by
  obtain ⟨c0, c1, c2⟩ := inM_row h h1 h2
  have e0 := dot_bound c0 hv
  have e1 := dot_bound c1 hv
  have e2 := dot_bound c2 hv
  unfold dotE at e0 e1 e2
  simp only [p58, mv, dotE, W_addL, W_addR]
  rw [W_id (by omega) (by omega), W_id (by omega) (by omega), W_id (by omega) (by omega)]
theorem p54_exact {a c : V3} (h : (dotE a c).natAbs ≤ 1000000000) : p54 a c = dotE a c := by
  unfold dotE at h
  simp only [p54, dotE, W_addL, W_addR]
  exact W_id (by omega) (by omega)
theorem dot_le {a c : V3} {k m : Nat} (h : inV a k) (h2 : inV c m) : (dotE a c).natAbs ≤ 3 * k * m := by
  obtain ⟨h3, h4, h5⟩ := h
  exact dot_bound (by omega) h2
section
variable {f : Frm} {x : Pln}
theorem mv_big (hf : Fine f.t) (hx : Small x) : inV (mv f.t.m x.n) 5632 := inV_le (mv_bound hf hx.n) (by have := rowMost_le (d := f.t.d); exact Nat.mul_le_mul_right 512 this)
theorem plane_core (hf : Fine f.t) (hs : inV f.s 4) (hx : Small x) (hv : p34 x = true) {n : V3} {g c : Int} (hg : g = (gcd3 (mv f.t.m x.n) : Int)) (hg1 : 1 ≤ g) (hn : mv f.t.m x.n = sc g n) (hc : f.t.d * x.b = g * c) :
    (p34 ⟨n, c + dotE n f.s⟩ = true → p28 f x = (⟨n, c + dotE n f.s⟩, true)) ∧ (p34 ⟨n, c + dotE n f.s⟩ = false → (p28 f x).2 = false) := by
  have hr : p56 f = true := by
    obtain ⟨t, s⟩ := f
    exact frame_ok hf.val (inV_le hs (by omega))
  obtain ⟨h1, h2, h3⟩ := right_d hr
  have hu := mv_big hf hx
  have e1 : p58 f.t.m x.n = mv f.t.m x.n := p58_wide h3 h1 h2 (inV_le hx.n (by omega))
  have e2 : p71 (mv f.t.m x.n) = (n, g) := by
    rw [hg]
    exact p71_some (inV_le hu (by omega)) (by omega) (by rw [← hg]; exact hn)
  have hnb : inV n 5632 := sc_bound hg1 (by rw [← hn]; exact hu)
  have e3 : p54 n f.s = dotE n f.s := p54_exact (by have := dot_le hnb hs; omega)
  have hdb : (f.t.d * x.b).natAbs ≤ 25 * 20000 := by
    rw [Int.natAbs_mul]
    exact Nat.mul_le_mul (by omega) hx.b
  have e4 : W (f.t.d * x.b) = g * c := by rw [W_id (by omega) (by omega)]; exact hc
  have hcb : c.natAbs ≤ 25 * 20000 := Nat.le_trans (le_mul_abs (d := g) hg1) (by rw [← hc]; exact hdb)
  have e5 : Int.tdiv (g * c) g = c := Int.mul_tdiv_cancel_left c (by omega)
  have e6 : Int.tmod (g * c) g = 0 := Int.mul_tmod_right g c
  have hds := dot_le hnb hs
  have e7 : W (W c + dotE n f.s) = c + dotE n f.s := by rw [W_id (n := c) (by omega) (by omega), W_id (by omega) (by omega)]
  have e8 : (g == 0) = false := beq_eq_false_iff_ne.2 (by omega)
  have e9 : ((0 : Int) != 0) = false := rfl
  simp only [p28, hr, hv, e1, e2, e3, e4, e5, e6, e7, e8, e9]
  constructor
  · intro h
    simp only [h]
    rfl
  · intro h
    simp only [h]
    rfl
theorem plane_ok {y : Pln} {g c : Int} (hf : Fine f.t) (hs : inV f.s 4) (hx : Small x) (hv : p34 x = true) (h : Moved f x y g c) : p28 f x = (y, true) := by
  have hg : g = (gcd3 (mv f.t.m x.n) : Int) := by
    have h1 := (p34_iff.1 h.val).2.1
    obtain ⟨k, rfl⟩ := Int.eq_ofNat_of_zero_le (show 0 ≤ g by have := h.pos; omega)
    rw [h.nor, gcd3_sc, h1, Nat.mul_one]
  have hy : y = ⟨y.n, c + dotE y.n f.s⟩ := by rw [← h.b]
  have := (plane_core hf hs hx hv hg h.pos h.nor h.off).1 (by rw [← hy]; exact h.val)
  rw [← hy] at this
  exact this
theorem plane_some (hf : Fine f.t) (hs : inV f.s 4) (hx : Small x) (hv : p34 x = true) (h : (p28 f x).2 = true) : ∃ g c, Moved f x (p28 f x).1 g c := by
  have hr : p56 f = true := by
    obtain ⟨t, s⟩ := f
    exact frame_ok hf.val (inV_le hs (by omega))
  obtain ⟨h1, h2, h3⟩ := right_d hr
  have hu := mv_big hf hx
  have e1 : p58 f.t.m x.n = mv f.t.m x.n := p58_wide h3 h1 h2 (inV_le hx.n (by omega))
  by_cases h0 : gcd3 (mv f.t.m x.n) = 0
  · exfalso
    have e2 := p71_zero (inV_le hu (by omega)) h0
    simp only [p28, hr, hv, e1, e2] at h
    simp at h
  · obtain ⟨n, hn⟩ := gcd3_split (mv f.t.m x.n)
    have e2 := p71_some (inV_le hu (by omega)) h0 hn
    have hdb : (f.t.d * x.b).natAbs ≤ 25 * 20000 := by
      rw [Int.natAbs_mul]
      exact Nat.mul_le_mul (by omega) hx.b
    have e4 : W (f.t.d * x.b) = f.t.d * x.b := W_id (by omega) (by omega)
    by_cases hd : (gcd3 (mv f.t.m x.n) : Int) ∣ f.t.d * x.b
    · obtain ⟨c, hc⟩ := hd
      have k := plane_core hf hs hx hv rfl (by omega) hn hc
      cases hp : p34 ⟨n, c + dotE n f.s⟩ with
      | false => rw [k.2 hp] at h; cases h
      | true =>
        rw [k.1 hp]
        exact ⟨_, c, by omega, hn, hc, rfl, hp⟩
    · exfalso
      have e6 : (Int.tmod (f.t.d * x.b) (gcd3 (mv f.t.m x.n) : Int) != 0) = true := by
        rw [bne_iff_ne]
        exact fun e => hd (Int.dvd_of_tmod_eq_zero e)
      simp only [p28, hr, hv, e1, e2, e4, e6] at h
      simp at h
theorem mv_negE (m : M3) (v : V3) : mv m (negE v) = negE (mv m v) := mv_neg m v
theorem dot_neg (a c : V3) : dotE (negE a) c = -dotE a c := by
  unfold dotE negE
  simp only [Int.neg_mul]
  omega
theorem Moved.flip {y : Pln} {g c : Int} (h : Moved f x y g c) : Moved f (flip x) (flip y) g (-c) := by
  refine ⟨h.pos, ?_, ?_, ?_, p34_flip h.val⟩
  · show mv f.t.m (negE x.n) = sc g (negE y.n)
    rw [mv_neg, h.nor, sc_neg]
  · show f.t.d * (-x.b) = g * (-c)
    rw [Int.mul_neg, h.off, Int.mul_neg]
  · show -y.b = -c + dotE (negE y.n) f.s
    rw [dot_neg, h.b]
    omega
end
end Go.Ev.T
