/- Made planes, and the law of sides (own work). -/
import Derived.Test.YthbcfinnphpcbaaDoorEvV2
import Derived.Test.YthbcfinnphpcbaaDoorEvV1
set_option linter.unusedVariables false
set_option linter.unusedSimpArgs false
set_option linter.unnecessarySimpa false
set_option linter.unusedSectionVars false
namespace Go.Ev.T
open Go Go.Ev Go.Proofs
set_option maxRecDepth 100000
/-! ### made planes are valid, and small -/
theorem sub_exact {a c : V3} (ha : inV a 8) (hc : inV c 8) : inV (p64 a c) 16 := by
  obtain ⟨h1, h2, h3⟩ := ha
  obtain ⟨k1, k2, k3⟩ := hc
  unfold p64 inV
  simp only
  rw [W_id (n := a.x - c.x) (by omega) (by omega), W_id (n := a.y - c.y) (by omega) (by omega), W_id (n := a.z - c.z) (by omega) (by omega)]
  omega
theorem mul_le {a c : Int} {k m : Nat} (h : a.natAbs ≤ k) (h2 : c.natAbs ≤ m) : (a * c).natAbs ≤ k * m := by
  rw [Int.natAbs_mul]
  exact Nat.mul_le_mul h h2
theorem cross_exact {a c : V3} (ha : inV a 16) (hc : inV c 16) : inV (p51 a c) 512 := by
  obtain ⟨h1, h2, h3⟩ := ha
  obtain ⟨k1, k2, k3⟩ := hc
  have a1 := mul_le h2 k3
  have a2 := mul_le h3 k2
  have a3 := mul_le h3 k1
  have a4 := mul_le h1 k3
  have a5 := mul_le h1 k2
  have a6 := mul_le h2 k1
  unfold p51 inV
  simp only
  rw [W_id (n := a.y * c.z) (by omega) (by omega), W_id (n := a.z * c.y) (by omega) (by omega), W_id (n := a.z * c.x) (by omega) (by omega), W_id (n := a.x * c.z) (by omega) (by omega), W_id (n := a.x * c.y) (by omega) (by omega), W_id (n := a.y * c.x) (by omega) (by omega)]
  rw [W_id (by omega) (by omega), W_id (by omega) (by omega), W_id (by omega) (by omega)]
  omega
theorem through_ok {x y z : V3} (hx : inV x 8) (hy : inV y 8) (hz : inV z 8) (h : (p69 x y z).2 = true) : Small (p69 x y z).1 ∧ p34 (p69 x y z).1 = true := by
  have hv := cross_exact (sub_exact hy hx) (sub_exact hz hx)
  have hw : word3 (p51 (p64 y x) (p64 z x)) := ⟨⟨W_lo _, W_hi _⟩, ⟨W_lo _, W_hi _⟩, W_lo _, W_hi _⟩
  revert h
  simp only [p69, (prim_eq hw).1]
  generalize p51 (p64 y x) (p64 z x) = u at *
  intro h
  have hc : p70 x = true ∧ p70 y = true ∧ p70 z = true ∧ ((p71 u).2 == 0) = false := by simpa using h
  obtain ⟨c1, c2, c3, c4⟩ := hc
  by_cases h0 : gcd3 u = 0
  · rw [p71_zero (inV_le hv (by omega)) h0] at c4
    cases c4
  · obtain ⟨n, hn⟩ := gcd3_split u
    have e := p71_some (inV_le hv (by omega)) h0 hn
    have hg : gcd3 n = 1 := by
      have := gcd3_sc (gcd3 u) n
      rw [← hn] at this
      have h2 : gcd3 u * 1 = gcd3 u * gcd3 n := by rw [Nat.mul_one]; exact this
      exact (Nat.eq_of_mul_eq_mul_left (by omega) h2).symm
    have hnb : inV n 512 := sc_bound (d := (gcd3 u : Int)) (by omega) (by rw [← hn]; exact hv)
    have hd := dot_le hnb hx
    have e2 : p49 n x = dotE n x := p54_exact (by omega)
    rw [e] at c4 ⊢
    simp only [c1, c2, c3, c4, e2]
    exact ⟨⟨hnb, by show (dotE n x).natAbs ≤ _; omega⟩, p34_iff.2 ⟨inV_le hnb (by omega), hg, by show (dotE n x).natAbs ≤ _; omega⟩⟩
theorem axis {e : Int} (he : e = 1 ∨ e = -1) {c : Int} (hc : c.natAbs ≤ 8) (n : V3) (hn : n = ⟨e, 0, 0⟩ ∨ n = ⟨0, e, 0⟩ ∨ n = ⟨0, 0, e⟩) : Small ⟨n, c⟩ ∧ p34 ⟨n, c⟩ = true := by
  have h : inV n 1 ∧ gcd3 n = 1 := by
    rcases he with rfl | rfl <;> rcases hn with rfl | rfl | rfl <;> exact ⟨⟨by decide, by decide, by decide⟩, by decide⟩
  exact ⟨⟨inV_le h.1 (by omega), by show c.natAbs ≤ _; omega⟩, p34_iff.2 ⟨inV_le h.1 (by omega), h.2, by show c.natAbs ≤ _; omega⟩⟩
theorem made_ok (l : IL) : Small (p25 l) ∧ p34 (p25 l) = true := by
  obtain ⟨k, c1, h1, h2, h3⟩ := draw_ok (m := 8) (by omega) (by omega) l (c := 0) (by omega)
  obtain ⟨v, c2, h4, h5, h6⟩ := draw_ok (m := 17) (by omega) (by omega) l (c := c1) (by omega)
  obtain ⟨a1, a2, a3, c3, h7, h8, h9⟩ := vec_ok (m := 8) (by omega) (by omega) l (c := c2) (by omega)
  obtain ⟨b1, b2, b3, c4, h10, h11, h12⟩ := vec_ok (m := 8) (by omega) (by omega) l (c := c3) (by omega)
  obtain ⟨d1, d2, d3, c5, h13, h14, h15⟩ := vec_ok (m := 8) (by omega) (by omega) l (c := c4) (by omega)
  have hT := through_ok (x := ⟨a1, a2, a3⟩) (y := ⟨b1, b2, b3⟩) (z := ⟨d1, d2, d3⟩) ⟨by show a1.natAbs ≤ 8; omega, by show a2.natAbs ≤ 8; omega, by show a3.natAbs ≤ 8; omega⟩ ⟨by show b1.natAbs ≤ 8; omega, by show b2.natAbs ≤ 8; omega, by show b3.natAbs ≤ 8; omega⟩ ⟨by show d1.natAbs ≤ 8; omega, by show d2.natAbs ≤ 8; omega, by show d3.natAbs ≤ 8; omega⟩
  have he : W (1 - W (2 * Int.tmod k 2)) = 1 ∨ W (1 - W (2 * Int.tmod k 2)) = -1 := by
    have : k = 0 ∨ k = 1 ∨ k = 2 ∨ k = 3 ∨ k = 4 ∨ k = 5 ∨ k = 6 ∨ k = 7 := by omega
    rcases this with h | h | h | h | h | h | h | h <;> subst h <;> decide
  have hb : W (v - 8) = v - 8 := W_id (by omega) (by omega)
  have h7' := three (mod_range (a := v - 8) (b := 3) (by omega) (by omega))
  unfold p25
  simp only [h1, h4, h7, h10, h13, hb]
  generalize W (1 - W (2 * Int.tmod k 2)) = e at he ⊢
  generalize p69 ⟨a1, a2, a3⟩ ⟨b1, b2, b3⟩ ⟨d1, d2, d3⟩ = t at hT ⊢
  obtain ⟨⟨⟨n1, n2, n3⟩, nb⟩, ok⟩ := t
  have hax : ∀ n, n = (⟨e, 0, 0⟩ : V3) ∨ n = ⟨0, e, 0⟩ ∨ n = ⟨0, 0, e⟩ → Small ⟨n, v - 8⟩ ∧ p34 ⟨n, v - 8⟩ = true := fun n hn => axis he (by omega) n hn
  cases decide (k > 1) with
  | false =>
    rcases h7' with h | h | h <;> rw [h]
    · exact hax ⟨e, 0, 0⟩ (.inl rfl)
    · exact hax ⟨0, e, 0⟩ (.inr (.inl rfl))
    · exact hax ⟨0, 0, e⟩ (.inr (.inr rfl))
  | true =>
    cases ok with
    | true => exact hT rfl
    | false =>
      rcases h7' with h | h | h <;> rw [h]
      · exact hax ⟨e, 0, 0⟩ (.inl rfl)
      · exact hax ⟨0, e, 0⟩ (.inr (.inl rfl))
      · exact hax ⟨0, 0, e⟩ (.inr (.inr rfl))
/-! ### sides -/
theorem dot_mv (m : M3) (a c : V3) : dotE (mv m a) c = dotE a (mv (colE m) c) := by
  obtain ⟨⟨p, q, r⟩, ⟨s, t, u⟩, ⟨v, w, x⟩⟩ := m
  obtain ⟨a1, a2, a3⟩ := a
  obtain ⟨c1, c2, c3⟩ := c
  simp only [dotE, mv, colE]
  grind
theorem dot_scL (g : Int) (a c : V3) : dotE (sc g a) c = g * dotE a c := by
  simp only [dotE, sc]
  grind
theorem dot_scR (g : Int) (a c : V3) : dotE a (sc g c) = g * dotE a c := by
  simp only [dotE, sc]
  grind
theorem dot_add (a c e : V3) : dotE a (addE c e) = dotE a c + dotE a e := by
  simp only [dotE, addE]
  grind
theorem cmp_scale {g d a c a' c' : Int} (hg : 1 ≤ g) (hd : 1 ≤ d) (h : g * (a - c) = d * (a' - c')) : p76 a c = p76 a' c' := by
  have pos : ∀ {k z : Int}, 1 ≤ k → (0 < k * z ↔ 0 < z) := fun {k z} hk => ⟨fun hz => by
    by_cases h0 : 0 < z
    · exact h0
    · have := Int.mul_le_mul_of_nonneg_left (show z ≤ 0 by omega) (show 0 ≤ k by omega)
      rw [Int.mul_zero] at this
      omega, fun hz => Int.mul_pos (by omega) hz⟩
  have neg : ∀ {k z : Int}, 1 ≤ k → (k * z < 0 ↔ z < 0) := fun {k z} hk => by
    have := pos (k := k) (z := -z) hk
    rw [Int.mul_neg] at this
    omega
  have h1 : (0 < a - c ↔ 0 < a' - c') := by rw [← pos hg, h, pos hd]
  have h2 : (a - c < 0 ↔ a' - c' < 0) := by rw [← neg hg, h, neg hd]
  unfold p76
  have e1 : decide (a < c) = decide (a' < c') := decide_eq_decide.2 (by omega)
  have e2 : decide (a > c) = decide (a' > c') := decide_eq_decide.2 (by omega)
  rw [e1, e2]
theorem side_eq {f : Frm} {x y : Pln} {g c : Int} {v q : V3} (hf : Fine f.t) (h : Moved f x y g c) (hq : mv f.t.m v = sc f.t.d q) : g * (dotE y.n (addE q f.s) - y.b) = f.t.d * (dotE x.n v - x.b) := by
  have hd := hf.d1
  have e1 : dotE (mv f.t.m x.n) (mv f.t.m v) = f.t.d * f.t.d * dotE x.n v := by rw [dot_mv, mvT_mv hf.col, dot_scR]
  rw [h.nor, hq, dot_scL, dot_scR] at e1
  have e2 : f.t.d * (g * (dotE y.n q - c)) = f.t.d * (f.t.d * (dotE x.n v - x.b)) := by
    have e3 := h.off
    calc f.t.d * (g * (dotE y.n q - c)) = g * (f.t.d * dotE y.n q) - f.t.d * (g * c) := by grind
      _ = f.t.d * f.t.d * dotE x.n v - f.t.d * (f.t.d * x.b) := by rw [e1, e3]
      _ = _ := by grind
  have e4 := Int.eq_of_mul_eq_mul_left (by omega) e2
  rw [dot_add, h.b]
  rw [← e4]
  congr 1
  omega
/-- a frame with whole numbers moves each plane -/
theorem whole {f : Frm} {x : Pln} (hf : Fine f.t) (hs : inV f.s 4) (hx : Small x) (hv : p34 x = true) (hd : f.t.d = 1) : ∃ y g c, Moved f x y g c := by
  have hb : inV (mv f.t.m x.n) 512 := inV_le (mv_bound hf hx.n) (by rw [hd]; exact Nat.le_refl _)
  have hds := dot_le hb hs
  have hxb := hx.b
  refine ⟨⟨mv f.t.m x.n, x.b + dotE (mv f.t.m x.n) f.s⟩, 1, x.b, by omega, ?_, by rw [hd], rfl, p34_iff.2 ⟨inV_le hb (by omega), ?_, by show (x.b + dotE (mv f.t.m x.n) f.s).natAbs ≤ _; omega⟩⟩
  · simp only [sc, Int.one_mul]
  · have e := mvT_mv hf.col x.n
    rw [hd] at e
    obtain ⟨h1, h2, h3⟩ := gcd3_dvd (mv f.t.m x.n)
    have dv : ∀ r : V3, (gcd3 (mv f.t.m x.n) : Int) ∣ dotE r (mv f.t.m x.n) := fun r => by
      unfold dotE
      exact Int.dvd_add (Int.dvd_add (Int.dvd_mul_of_dvd_right h1) (Int.dvd_mul_of_dvd_right h2)) (Int.dvd_mul_of_dvd_right h3)
    have e1 : dotE (colE f.t.m).r0 (mv f.t.m x.n) = x.n.x := (congrArg V3.x e).trans (by simp [sc])
    have e2 : dotE (colE f.t.m).r1 (mv f.t.m x.n) = x.n.y := (congrArg V3.y e).trans (by simp [sc])
    have e3 : dotE (colE f.t.m).r2 (mv f.t.m x.n) = x.n.z := (congrArg V3.z e).trans (by simp [sc])
    have k1 := dv (colE f.t.m).r0
    have k2 := dv (colE f.t.m).r1
    have k3 := dv (colE f.t.m).r2
    rw [e1] at k1
    rw [e2] at k2
    rw [e3] at k3
    have := dvd_gcd3 k1 k2 k3
    rw [(p34_iff.1 hv).2.1] at this
    exact Nat.eq_one_of_dvd_one this
theorem mult17 {t n : Int} (ht : 0 ≤ t ∧ t < 17) (h1 : 1 ≤ n) (h2 : n ≤ 49) : ∃ u, W (W (Int.tdiv (W (t - 8)) n) * n) = n * u ∧ (n * u).natAbs ≤ 8 := by
  rw [W_id (n := t - 8) (by omega) (by omega)]
  have ha : (Int.tdiv (t - 8) n).natAbs ≤ 8 := by
    rw [Int.natAbs_tdiv]
    exact Nat.le_trans (Nat.div_le_self _ _) (by omega)
  rw [W_id (n := Int.tdiv (t - 8) n) (by omega) (by omega)]
  have hb : (n * Int.tdiv (t - 8) n).natAbs ≤ 8 := by
    rw [Int.natAbs_mul, Int.natAbs_tdiv]
    exact Nat.le_trans (Nat.mul_div_le _ _) (by omega)
  refine ⟨Int.tdiv (t - 8) n, ?_, hb⟩
  rw [Int.mul_comm, W_id (by omega) (by omega)]
theorem mv_small {t : Trn} (hf : Fine t) {u : V3} (h : inV (sc t.d u) 8) : inV (mv t.m u) 11 := by
  have hb := fun k (hk : inV u k) => mv_bound hf hk
  obtain ⟨h1, h2, h3⟩ := h
  simp only [sc] at h1 h2 h3
  rcases hf.d with e | e | e | e <;> rw [e] at h1 h2 h3
  · have := hb 8 ⟨by omega, by omega, by omega⟩
    rw [e] at this
    exact inV_le this (by decide)
  · have := hb 2 ⟨by omega, by omega, by omega⟩
    rw [e] at this
    exact inV_le this (by decide)
  · have := hb 1 ⟨by omega, by omega, by omega⟩
    rw [e] at this
    exact inV_le this (by decide)
  · have := hb 1 ⟨by omega, by omega, by omega⟩
    rw [e] at this
    exact inV_le this (by decide)
theorem lsP2 (a c : Pln) : lsP 2 (fun q => getRow [[(Go.Ev.i a.n.x), (Go.Ev.i a.n.y), (Go.Ev.i a.n.z), (Go.Ev.i a.b)], [(Go.Ev.i c.n.x), (Go.Ev.i c.n.y), (Go.Ev.i c.n.z), (Go.Ev.i c.b)]] (0 + q)) = [a, c] := rfl
theorem okP2 (a c : Pln) : okPs 2 (fun q => getRow [[(Go.Ev.i a.n.x), (Go.Ev.i a.n.y), (Go.Ev.i a.n.z), (Go.Ev.i a.b)], [(Go.Ev.i c.n.x), (Go.Ev.i c.n.y), (Go.Ev.i c.n.z), (Go.Ev.i c.b)]] (0 + q)) = true := rfl
theorem g30_two (f : Frm) (a c : Pln) : g30 f [a, c] = true := pd_true (by simp)
theorem ls_can (L : List Pln) : lsP (List.length L) (fun k => rP (gP L k)) = L := lsRows_enc (fun _ => rfl) L
theorem ok_can (L : List Pln) : okPs (List.length L) (fun k => rP (gP L k)) = true := okRows_enc (fun _ => rfl) _ _
theorem p35_eq {x : Pln} {v : V3} (hv : p34 x = true) (hin : p68 v = true) (hx : (dotE x.n v).natAbs ≤ 1000000000) : p35 x v = p76 (dotE x.n v) x.b := by
  simp only [p35, hv, hin, p54_exact hx]
  rfl
theorem sides_all (x y : IL) (z : V3) : p8 x y z = true ∧ g8 x y z = true := by
  obtain ⟨a, k, s, ha, hk, hsx, hsy, hsz, ef⟩ := p10_form x
  have hf0 := fine_fr ha hk
  obtain ⟨hX, hv⟩ := made_ok y
  unfold p8 g8
  simp only [okInts_can, g10_ok, g25_ok, g17_ok _ (show (0 : Int) < 17 by omega), g22_all, g28_ok, g34_ok, g35, okP2, lsP2, g30_two, ls_can, ok_can, Bool.true_and, ef]
  generalize (frA a k).1.t = t at hf0 ⊢
  have hd1 := hf0.d1
  have hd : (t.d == 0) = false := beq_eq_false_iff_ne.2 (by omega)
  have hd7 : t.d ≤ 49 := by rcases hf0.d with e | e | e | e <;> omega
  obtain ⟨ux, ex, bx⟩ := mult17 (mod_range (a := z.x) (b := 17) (by omega) (by omega)) hd1 hd7
  obtain ⟨uy, ey, by'⟩ := mult17 (mod_range (a := z.y) (b := 17) (by omega) (by omega)) hd1 hd7
  obtain ⟨uz, ez, bz⟩ := mult17 (mod_range (a := z.z) (b := 17) (by omega) (by omega)) hd1 hd7
  simp only [ex, ey, ez, hd, Bool.not_false, Bool.true_and]
  rw [show p16 (t.d * ux) (t.d * uy) (t.d * uz) = sc t.d ⟨ux, uy, uz⟩ from rfl]
  have hu : inV (sc t.d ⟨ux, uy, uz⟩) 8 := ⟨bx, by', bz⟩
  generalize (⟨ux, uy, uz⟩ : V3) = u at hu ⊢
  generalize p25 y = X at hX hv ⊢
  have hs : inV s 4 := ⟨by omega, by omega, by omega⟩
  have hr : p56 ⟨t, s⟩ = true := frame_ok hf0.val (inV_le hs (by omega))
  have hq := mv_small hf0 hu
  have hqv : mv t.m (sc t.d u) = sc t.d (mv t.m u) := mv_sc _ _ _
  have hw : inV (addE (mv t.m u) s) 15 := by
    obtain ⟨q1, q2, q3⟩ := hq
    obtain ⟨s1, s2, s3⟩ := hs
    exact ⟨by show ((mv t.m u).x + s.x).natAbs ≤ 15; omega, by show ((mv t.m u).y + s.y).natAbs ≤ 15; omega, by show ((mv t.m u).z + s.z).natAbs ≤ 15; omega⟩
  have hap : p22 ⟨t, s⟩ (sc t.d u) = (addE (mv t.m u) s, true) := apply_ok (f := ⟨t, s⟩) hr (inV_le hu (by omega)) hqv (inV_le hs (by omega)) (inV_le hw (by omega))
  have hfl : p33 X = flip X := p33_eq (inV_le hX.n (by omega)) (by have := hX.b; omega)
  rw [hap, hfl]
  have hf : Fine (⟨t, s⟩ : Frm).t := hf0
  cases hP : (p28 ⟨t, s⟩ X).2 with
  | true =>
    obtain ⟨g, c, hM⟩ := plane_some hf hs hX hv hP
    have e1 := plane_ok hf hs hX hv hM
    have e2 := plane_ok hf hs hX.flip (p34_flip hv) hM.flip
    generalize (p28 ⟨t, s⟩ X).1 = Y at hM e1 e2
    have e3 : p30 ⟨t, s⟩ [X, flip X] = ([Y, flip Y], true) := by
      unfold p30
      rw [hr]
      simp only [cellF, e1, e2]
      rfl
    have hY := p34_iff.1 hM.val
    have e4 : p33 Y = flip Y := p33_eq (inV_le hY.1 (by omega)) (by omega)
    have hg1 := hM.pos
    have hnb : inV Y.n 4608 := hY.1
    have d1 := dot_le hnb hw
    have d2 := dot_le hX.n hu
    have e5 : p35 Y (addE (mv t.m u) s) = p35 X (sc t.d u) := by
      rw [p35_eq hM.val (p68_in.2 (inV_le hw (by omega))) (by omega), p35_eq hv (p68_in.2 (inV_le hu (by omega))) (by omega)]
      exact cmp_scale hg1 hd1 (side_eq hf hM hqv)
    have e6 := same_eq [Y, flip Y] [Y, flip Y] (by simp)
    rw [pd_true rfl] at e6
    rw [e2, e3, e4]
    simp only [hM.val, e5, e6.1, e6.2]
    simp
  | false =>
    have e2 : (p28 ⟨t, s⟩ (flip X)).2 = false := by
      cases h2 : (p28 ⟨t, s⟩ (flip X)).2 with
      | false => rfl
      | true =>
        obtain ⟨g, c, hM⟩ := plane_some hf hs hX.flip (p34_flip hv) h2
        have hM2 := hM.flip
        rw [flip_flip] at hM2
        rw [plane_ok hf hs hX hv hM2] at hP
        cases hP
    have e3 : p30 ⟨t, s⟩ [X, flip X] = ([], false) := by
      unfold p30
      rw [hr]
      simp only [cellF, hP]
    have hdd : decide (t.d > 1) = true := by
      refine decide_eq_true ?_
      by_cases h : t.d = 1
      · exfalso
        obtain ⟨Y, g, c, hM⟩ := whole (f := ⟨t, s⟩) hf hs hX hv h
        rw [plane_ok hf hs hX hv hM] at hP
        cases hP
      · omega
    rw [e2, e3, hdd]
    exact ⟨rfl, rfl⟩
theorem law8 (l p : IL) (v : V3) : (S8 [cL.enc l, cL.enc p, cV.enc v] []).run = some (b true, []) := by
  have e : (S8 [cL.enc l, cL.enc p, cV.enc v] []).run = sel (okInts l.n (fun k => [i (l.g k)])) (sel (okInts p.n (fun k => [i (p.g k)])) (sel (g8 l p v) (some (b (p8 l p v), [])) none) none) none := by kernel_rfl
  rw [e, okInts_can, okInts_can, (sides_all l p v).1, (sides_all l p v).2]
end Go.Ev.T
