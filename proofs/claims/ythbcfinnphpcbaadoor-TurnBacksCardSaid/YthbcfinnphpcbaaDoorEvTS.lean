/- After sends a point to where the second frame sends what the first one makes of it (own work). -/
import Derived.Test.YthbcfinnphpcbaaDoorEvTR
set_option linter.unusedVariables false
set_option linter.unusedSimpArgs false
set_option linter.unnecessarySimpa false
set_option linter.unusedSectionVars false
namespace Go.Ev.T
open Go Go.Ev Go.Proofs
set_option maxRecDepth 100000

theorem div_some {u : V3} {d : Int} (h : (p57 u d).2 = true) : ∃ r, u = sc d r := by
  simp only [p57, Bool.and_eq_true, beq_iff_eq] at h
  refine ⟨⟨Int.tdiv u.x d, Int.tdiv u.y d, Int.tdiv u.z d⟩, ?_⟩
  have hx := Int.tmod_add_mul_tdiv u.x d
  have hy := Int.tmod_add_mul_tdiv u.y d
  have hz := Int.tmod_add_mul_tdiv u.z d
  rw [h.1] at hx
  rw [h.2.1] at hy
  rw [h.2.2] at hz
  obtain ⟨x, y, z⟩ := u
  simp only [sc, V3.mk.injEq]
  exact ⟨by simpa using hx.symm, by simpa using hy.symm, by simpa using hz.symm⟩
/-- what Apply says where it answers -/
theorem apply_some {f : Frm} {v : V3} (h : (p22 f v).2 = true) (hs : inV f.s 100) : ∃ q, mv f.t.m v = sc f.t.d q ∧ inV v 24 ∧ inV (addE q f.s) 24 ∧ p22 f v = (addE q f.s, true) := by
  have h' := h
  simp only [p22, Bool.and_eq_true, Bool.not_eq_true', Bool.not_eq_false'] at h
  obtain ⟨h1, h2, h3, h4⟩ := h
  obtain ⟨a1, a2, a3⟩ := right_d h1
  have hv := p68_in.1 h2
  have e1 := p58_exact a3 a1 a2 (inV_le hv (n := 100) (by omega))
  rw [e1] at h3 h4
  obtain ⟨q, hq⟩ := div_some h3
  have hb : inV q 7500 := by
    refine sc_bound a1 (k := 7500) ?_
    rw [← hq]
    obtain ⟨c0, c1, c2⟩ := inM_row a3 a1 a2
    exact inV_le (show inV (mv f.t.m v) (75 * 24) from ⟨dot_bound c0 hv, dot_bound c1 hv, dot_bound c2 hv⟩) (by omega)
  rw [hq, p57_exact a1 (inV_le hb (by omega)), p65_exact (inV_le hb (by omega)) (inV_le hs (by omega))] at h4
  exact ⟨q, hq, hv, p68_in.1 h4, apply_ok h1 hv hq hs (p68_in.1 h4)⟩

theorem tdiv_dvd {c e : Int} (hc : 1 ≤ c) (h : c ∣ e) (hb : e.natAbs ≤ 1000000) : c * W (Int.tdiv e c) = e ∧ (W (Int.tdiv e c)).natAbs ≤ 1000000 := by
  obtain ⟨k, rfl⟩ := h
  rw [Int.mul_tdiv_cancel_left k (by omega)]
  have := le_mul_abs (x := k) hc
  rw [W_id (by omega) (by omega)]
  exact ⟨rfl, by omega⟩
theorem subE {a c : V3} : addE (addE a (negE c)) c = a := by
  obtain ⟨x, y, z⟩ := a
  simp only [addE, negE, V3.mk.injEq]
  refine ⟨?_, ?_, ?_⟩ <;> omega
theorem addE_assoc (a c e : V3) : addE (addE a c) e = addE a (addE c e) := by
  simp only [addE, V3.mk.injEq]
  refine ⟨?_, ?_, ?_⟩ <;> omega

theorem after_apply {f g : Frm} (hf : Fine f.t) (hg : Fine g.t) (hsf : inV f.s 4) (hsg : inV g.s 4) {v q : V3} (hq : mv f.t.m v = sc f.t.d q) (hv : inV v 24) (h7 : (p20 f g).2 = true) (h8 : (p22 g (addE q f.s)).2 = true) :
    p22 (p20 f g).1 v = ((p22 g (addE q f.s)).1, true) := by
  have hfd := hf.d1
  have hgd := hg.d1
  have h56 : p56 f = true := frame_ok hf.val (inV_le hsf (by omega))
  have h57 : p56 g = true := frame_ok hg.val (inV_le hsg (by omega))
  obtain ⟨g1, g2, g3⟩ := right_d h57
  obtain ⟨z, hz, hw, hin, e8⟩ := apply_some h8 (inV_le hsg (by omega))
  have eS := p58_exact g3 g1 g2 (inV_le hsf (n := 100) (by omega))
  have h7' := h7
  simp only [p20, h56, h57, eS, Bool.and_eq_true, Bool.not_eq_true', Bool.not_eq_false', Bool.not_true, Bool.not_false, true_and] at h7
  obtain ⟨hS, hF⟩ := h7
  obtain ⟨s, hs⟩ := div_some hS
  have hsb : inV s 300 := by
    refine sc_bound g1 (k := 300) ?_
    rw [← hs]
    obtain ⟨c0, c1, c2⟩ := inM_row g3 g1 g2
    exact inV_le (show inV (mv g.t.m f.s) (75 * 4) from ⟨dot_bound c0 hsf, dot_bound c1 hsf, dot_bound c2 hsf⟩) (by omega)
  have hdd : W (f.t.d * g.t.d) = f.t.d * g.t.d ∧ 1 ≤ f.t.d * g.t.d ∧ f.t.d * g.t.d ≤ 49 := by
    have : 1 ≤ f.t.d * g.t.d ∧ f.t.d * g.t.d ≤ 49 := by
      rcases hf.d with e | e | e | e <;> rcases hg.d with e' | e' | e' | e' <;> rw [e, e'] <;> decide
    exact ⟨W_id (by omega) (by omega), this.1, this.2⟩
  have hmb := mul_bound hf hg
  have hmb6 : boundM (mulE g.t.m f.t.m) 1000000 := ⟨inV_le hmb.1 (by omega), inV_le hmb.2.1 (by omega), inV_le hmb.2.2 (by omega)⟩
  have hred := red_common (t := ⟨mulE g.t.m f.t.m, f.t.d * g.t.d⟩) hdd.2.1 (by have := hdd.2.2; show f.t.d * g.t.d ≤ _; omega)
  have hdiv := common_divs (t := ⟨mulE g.t.m f.t.m, f.t.d * g.t.d⟩) hdd.2.1 (by have := hdd.2.2; show f.t.d * g.t.d ≤ _; omega) hmb6
  generalize hc : p52 ⟨mulE g.t.m f.t.m, f.t.d * g.t.d⟩ = c at hred hdiv
  simp only at hred hdiv
  generalize hP : mulE g.t.m f.t.m = P at *
  have t0 := tdiv_dvd hdiv.pos hdiv.e0 hmb6.1.1
  have t1 := tdiv_dvd hdiv.pos hdiv.e1 hmb6.1.2.1
  have t2 := tdiv_dvd hdiv.pos hdiv.e2 hmb6.1.2.2
  have t3 := tdiv_dvd hdiv.pos hdiv.e3 hmb6.2.1.1
  have t4 := tdiv_dvd hdiv.pos hdiv.e4 hmb6.2.1.2.1
  have t5 := tdiv_dvd hdiv.pos hdiv.e5 hmb6.2.1.2.2
  have t6 := tdiv_dvd hdiv.pos hdiv.e6 hmb6.2.2.1
  have t7 := tdiv_dvd hdiv.pos hdiv.e7 hmb6.2.2.2.1
  have t8 := tdiv_dvd hdiv.pos hdiv.e8 hmb6.2.2.2.2
  have tD := tdiv_dvd hdiv.pos hdiv.d (by omega)
  have hscM : scM c (p43 P (f.t.d * g.t.d)).1 = P := by
    rw [hred]
    obtain ⟨⟨a0, a1, a2⟩, ⟨a3, a4, a5⟩, ⟨a6, a7, a8⟩⟩ := P
    simp only [scM, sc, M3.mk.injEq, V3.mk.injEq]
    exact ⟨⟨t0.1, t1.1, t2.1⟩, ⟨t3.1, t4.1, t5.1⟩, t6.1, t7.1, t8.1⟩
  have hE : c * (p43 P (f.t.d * g.t.d)).2 = f.t.d * g.t.d := by rw [hred]; exact tD.1
  have e44 : p44 g.t.m f.t.m = P := by rw [← hP]; exact p44_exact hf hg
  have e57 := p57_exact g1 (inV_le hsb (n := 10000) (by omega))
  have e65 := p65_exact (inV_le hsb (n := 10000) (by omega)) (inV_le hsg (n := 10000) (by omega))
  rw [hs, e57, e44, hdd.1, e65] at hF
  have hF' : p56 ⟨⟨(p43 P (f.t.d * g.t.d)).1, (p43 P (f.t.d * g.t.d)).2⟩, addE s g.s⟩ = true := by
    simp only [p59, Bool.not_not] at hF; exact hF
  have e20 : p20 f g = (⟨⟨(p43 P (f.t.d * g.t.d)).1, (p43 P (f.t.d * g.t.d)).2⟩, addE s g.s⟩, true) := by
    simp only [p20, h56, h57, eS, hs, e57, e44, hdd.1, e65, p59, hF']
    rfl
  have hsum : inV (addE s g.s) 100 := by
    have := hF'
    simp only [p56, Bool.and_eq_true] at this
    have h80 := this.1
    unfold p80 at h80
    simp only [Bool.and_eq_true, Bool.not_eq_true', decide_eq_false_iff_not] at h80
    unfold inV
    omega
  -- where the point goes
  have hmq : mv g.t.m q = sc g.t.d (addE z (negE s)) := by
    have h1 : mv g.t.m (addE q f.s) = addE (mv g.t.m q) (mv g.t.m f.s) := mv_add _ _ _
    rw [hz, hs] at h1
    rw [sc_add, sc_neg, h1]
    exact (add_neg _ _).symm
  have hfin : mv (p43 P (f.t.d * g.t.d)).1 v = sc (p43 P (f.t.d * g.t.d)).2 (addE z (negE s)) := by
    apply sc_inj (d := c) (by have := hdiv.pos; omega)
    rw [← mv_scM, hscM, sc_sc, hE, ← hP, mv_mul, hq, mv_sc, hmq, sc_sc]
  have hgo : addE (addE z (negE s)) (addE s g.s) = addE z g.s := by rw [← addE_assoc, subE]
  rw [e20, e8]
  have := apply_ok (f := ⟨⟨(p43 P (f.t.d * g.t.d)).1, (p43 P (f.t.d * g.t.d)).2⟩, addE s g.s⟩) hF' (v := v) (q := addE z (negE s)) hv hfin hsum (by rw [hgo]; exact hin)
  rw [this, hgo]
end Go.Ev.T
