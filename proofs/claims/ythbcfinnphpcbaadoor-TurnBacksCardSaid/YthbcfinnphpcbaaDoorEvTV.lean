/- TurnBacks, as a plain fact (own work). -/
import Derived.Test.YthbcfinnphpcbaaDoorEvTU
set_option linter.unusedVariables false
set_option linter.unusedSimpArgs false
set_option linter.unnecessarySimpa false
set_option linter.unusedSectionVars false
namespace Go.Ev.T
open Go Go.Ev Go.Proofs
set_option maxRecDepth 100000

theorem sc_one (v : V3) : sc 1 v = v := by simp only [sc, Int.one_mul]
theorem rowMost_one : rowMost 1 = 1 := rfl
theorem add_bound {v u : V3} {n m : Nat} (h : inV v n) (k : inV u m) : inV (addE v u) (n + m) := by
  obtain ⟨a, c, e⟩ := h
  obtain ⟨a', c', e'⟩ := k
  exact ⟨by simp only [addE]; omega, by simp only [addE]; omega, by simp only [addE]; omega⟩
theorem row7 {d : Int} {x : Int} (hd : d = 1 ∨ d = 3 ∨ d = 5 ∨ d = 7) (h : (d * x).natAbs ≤ rowMost d * 4) : x.natAbs ≤ 6 := by
  rcases hd with rfl | rfl | rfl | rfl <;> simp [rowMost] at h <;> omega
/-- with no denominators, After answers -/
theorem seven_ok {f g : Frm} (hf : Fine f.t) (hg : Fine g.t) (hsf : inV f.s 4) (hsg : inV g.s 4) (hd : g.t.d = 1)
    (h1 : p12 ⟨(p43 (p44 g.t.m f.t.m) (W (f.t.d * g.t.d))).1, (p43 (p44 g.t.m f.t.m) (W (f.t.d * g.t.d))).2⟩ = true) : (p20 f g).2 = true := by
  have h56 : p56 f = true := frame_ok hf.val (inV_le hsf (by omega))
  have h57 : p56 g = true := frame_ok hg.val (inV_le hsg (by omega))
  obtain ⟨g1, g2, g3⟩ := right_d h57
  have hb := mv_bound hg hsf
  rw [hd, rowMost_one] at hb
  have eS : p58 g.t.m f.s = sc g.t.d (mv g.t.m f.s) := by rw [hd, sc_one]; exact p58_exact g3 g1 g2 (inV_le hsf (by omega))
  have e57 := p57_exact g1 (inV_le hb (n := 10000) (by omega))
  have e65 := p65_exact (inV_le hb (n := 10000) (by omega)) (inV_le hsg (n := 10000) (by omega))
  have hp : p56 ⟨⟨(p43 (p44 g.t.m f.t.m) (W (f.t.d * g.t.d))).1, (p43 (p44 g.t.m f.t.m) (W (f.t.d * g.t.d))).2⟩, addE (mv g.t.m f.s) g.s⟩ = true :=
    frame_ok h1 (inV_le (add_bound hb hsg) (by omega))
  simp only [p20, h56, h57, eS, e57, e65, p59, hp]
  rfl
theorem eight_ok {g : Frm} (hg : Fine g.t) (hsg : inV g.s 4) (hd : g.t.d = 1) {w : V3} (hw : inV w 10) : (p22 g w).2 = true := by
  have h57 : p56 g = true := frame_ok hg.val (inV_le hsg (by omega))
  have hb := mv_bound hg hw
  rw [hd, rowMost_one] at hb
  have := apply_ok h57 (v := w) (q := mv g.t.m w) (inV_le hw (by omega)) (by rw [hd, sc_one]) (inV_le hsg (by omega)) (inV_le (add_bound hb hsg) (by omega))
  rw [this]

theorem p5_true (l : LL) (y : V3) : p5 l y = true := by
  obtain ⟨a, k, s, ha, hk, hsx, hsy, hsz, ef⟩ := p10_form l.a
  obtain ⟨c, m, s', hc, hm, hsx', hsy', hsz', eg⟩ := p10_form l.b
  have hf := fine_fr ha hk
  have hg := fine_fr hc hm
  have hsf : inV s 4 := ⟨by omega, by omega, by omega⟩
  have hsg : inV s' 4 := ⟨by omega, by omega, by omega⟩
  have h1 : (frA a k).1.t.d * (frA c m).1.t.d = 1 → (frA a k).1.t.d = 1 ∧ (frA c m).1.t.d = 1 ∧ p12 ⟨(p43 (p44 (frA c m).1.t.m (frA a k).1.t.m) (W ((frA a k).1.t.d * (frA c m).1.t.d))).1, (p43 (p44 (frA c m).1.t.m (frA a k).1.t.m) (W ((frA a k).1.t.d * (frA c m).1.t.d))).2⟩ = true := fun h => by
    have hd : (frA a k).1.t.d = 1 ∧ (frA c m).1.t.d = 1 := by
      rcases hf.d with e | e | e | e <;> rcases hg.d with e' | e' | e' | e' <;> rw [e, e'] at h <;> first | exact ⟨e, e'⟩ | (exfalso; revert h; decide)
    have three : ∀ {a : Int} {k : Nat}, 0 ≤ a ∧ a < 8 → k < 24 → (frA a k).1.t.d = 1 → frA a k = frA 3 k := fun {a k} ha hk hd => by
      have hno : ∀ n : Nat, n < 3 → (frA n k).1.t.d ≠ 1 := fun n hn => by
        have h2 := List.all_eq_true.1 (List.all_eq_true.1 not1 n (by simpa using hn)) k (by simpa using hk)
        simpa using h2
      have hs := same3 k
      have : a = 0 ∨ a = 1 ∨ a = 2 ∨ a = 3 ∨ a = 4 ∨ a = 5 ∨ a = 6 ∨ a = 7 := by omega
      rcases this with rfl | rfl | rfl | rfl | rfl | rfl | rfl | rfl
      · exact absurd hd (hno 0 (by omega))
      · exact absurd hd (hno 1 (by omega))
      · exact absurd hd (hno 2 (by omega))
      · rfl
      · exact hs.1
      · exact hs.2.1
      · exact hs.2.2.1
      · exact hs.2.2.2
    refine ⟨hd.1, hd.2, ?_⟩
    rw [three ha hk hd.1, three hc hm hd.2]
    exact List.all_eq_true.1 (List.all_eq_true.1 prod1 k (by simpa using hk)) m (by simpa using hm)
  simp only [p5, ef, eg]
  obtain ⟨hdd, hd1, hd49⟩ := dd_ok hf hg
  generalize hF : (frA a k).1.t = F at *
  generalize hG : (frA c m).1.t = G at *
  rw [hdd]
  obtain ⟨ux, ex, bx⟩ := mult (mod_range (a := y.x) (b := 9) (by omega) (by omega)) hd1 hd49
  obtain ⟨uy, ey, by'⟩ := mult (mod_range (a := y.y) (b := 9) (by omega) (by omega)) hd1 hd49
  obtain ⟨uz, ez, bz⟩ := mult (mod_range (a := y.z) (b := 9) (by omega) (by omega)) hd1 hd49
  rw [ex, ey, ez]
  have ev : p16 (F.d * G.d * ux) (F.d * G.d * uy) (F.d * G.d * uz) = sc (F.d * G.d) ⟨ux, uy, uz⟩ := rfl
  rw [ev]
  have hv : inV (sc (F.d * G.d) ⟨ux, uy, uz⟩) 4 := ⟨bx, by', bz⟩
  have hq : mv F.m (sc (F.d * G.d) ⟨ux, uy, uz⟩) = sc F.d (sc G.d (mv F.m ⟨ux, uy, uz⟩)) := by rw [mv_sc, sc_sc]
  have hqb : inV (sc G.d (mv F.m ⟨ux, uy, uz⟩)) 6 := by
    have hb := mv_bound hf hv
    rw [hq] at hb
    exact ⟨row7 hf.d hb.1, row7 hf.d hb.2.1, row7 hf.d hb.2.2⟩
  generalize sc (F.d * G.d) ⟨ux, uy, uz⟩ = v at *
  generalize sc G.d (mv F.m ⟨ux, uy, uz⟩) = q at *
  have hv24 : inV v 24 := inV_le hv (by omega)
  have hw : inV (addE q s) 10 := add_bound hqb hsf
  have h56 : p56 ⟨F, s⟩ = true := frame_ok hf.val (inV_le hsf (by omega))
  have e7 : p22 ⟨F, s⟩ v = (addE q s, true) := apply_ok h56 hv24 hq (inV_le hsf (by omega)) (inV_le hw (by omega))
  have hlast : (sel (p20 ⟨F, s⟩ ⟨G, s'⟩).2 (sel (p22 ⟨G, s'⟩ (addE q s)).2 true ((decide (F.d * G.d > 1)) || (p22 ⟨G, s'⟩ (addE q s)).2)) (decide (F.d * G.d > 1))) = true := by
    by_cases hb : F.d * G.d > 1
    · rw [decide_eq_true hb]
      cases (p20 ⟨F, s⟩ ⟨G, s'⟩).2 <;> cases (p22 ⟨G, s'⟩ (addE q s)).2 <;> rfl
    · obtain ⟨d1, d2, hp⟩ := h1 (by omega)
      rw [seven_ok (f := ⟨F, s⟩) (g := ⟨G, s'⟩) hf hg hsf hsg d2 hp, eight_ok (g := ⟨G, s'⟩) hg hsg d2 hw]
  have h15 : (p20 ⟨F, s⟩ ⟨G, s'⟩).2 = true → (p22 ⟨G, s'⟩ (addE q s)).2 = true → p22 (p20 ⟨F, s⟩ ⟨G, s'⟩).1 v = ((p22 ⟨G, s'⟩ (addE q s)).1, true) := fun h7 h8 => after_apply (f := ⟨F, s⟩) (g := ⟨G, s'⟩) hf hg hsf hsg hq hv24 h7 h8
  have hdF : (p18 ⟨F, s⟩).2 = false → F.d > 1 := fun h => by
    rcases hf.d with e | e | e | e
    · exfalso
      have := (back_ok (f := ⟨F, s⟩) hf hsf (r := mv (colE F.m) s) (by show _ = sc F.d _; rw [e, sc_one])).2
      rw [this] at h
      cases h
    · omega
    · omega
    · omega
  cases h8 : (p18 ⟨F, s⟩).2 with
  | true =>
    obtain ⟨r, hr⟩ := back_some (f := ⟨F, s⟩) hf hsf h8
    have e8 := (back_ok (f := ⟨F, s⟩) hf hsf hr).2
    have e9 := apply_back (f := ⟨F, s⟩) hf hsf hr hq hv24 (inV_le hw (by omega))
    have e10 := back_back (f := ⟨F, s⟩) hf hsf hr
    have e11 := after_back (f := ⟨F, s⟩) hf hsf hr
    have e12 := apply_one hv24
    simp only [e7, e8, e9, e10, e11, e12, beq_self_eq_true, Bool.and_self, Bool.not_true, Bool.not_false, Bool.true_and, sel_t]
    revert hlast h15
    cases h13 : (p20 ⟨F, s⟩ ⟨G, s'⟩).2 with
    | false => intro hlast _; exact hlast
    | true =>
      cases h14 : (p22 ⟨G, s'⟩ (addE q s)).2 with
      | false => intro hlast _; exact hlast
      | true =>
        intro _ h15
        simp only [h15 rfl rfl, beq_self_eq_true, Bool.and_self, Bool.not_true, Bool.not_false, Bool.or_true, sel_t]
  | false =>
    simp only [e7, h8, decide_eq_true (hdF h8), Bool.not_true, Bool.not_false, Bool.true_and, sel_t, sel_f]
    revert hlast h15
    cases h13 : (p20 ⟨F, s⟩ ⟨G, s'⟩).2 with
    | false => intro hlast _; exact hlast
    | true =>
      cases h14 : (p22 ⟨G, s'⟩ (addE q s)).2 with
      | false => intro hlast _; exact hlast
      | true =>
        intro _ h15
        simp only [h15 rfl rfl, beq_self_eq_true, Bool.and_self, Bool.not_true, Bool.not_false, Bool.or_true, sel_t]
theorem g5_true (l : LL) (y : V3) : g5 l y = true := by
  obtain ⟨a, k, s, ha, hk, _, _, _, ef⟩ := p10_form l.a
  obtain ⟨c, m, s', hc, hm, _, _, _, eg⟩ := p10_form l.b
  have hd : ((W ((p10 l.a).t.d * (p10 l.b).t.d)) == 0) = false := by
    rw [ef, eg]
    obtain ⟨hdd, hd1, _⟩ := dd_ok (fine_fr ha hk) (fine_fr hc hm)
    show (W ((frA a k).1.t.d * (frA c m).1.t.d) == 0) = false
    rw [hdd]
    exact beq_eq_false_iff_ne.2 (by omega)
  simp only [g5, okInts_can, g10_ok, g17_ok y.x (b := 9) (by omega), g17_ok y.y (b := 9) (by omega), g17_ok y.z (b := 9) (by omega), hd, g22_ok, g18_ok, g20_ok, Bool.not_false, Bool.true_and, Bool.and_true, Bool.or_true, Bool.and_self, Bool.or_self]
  generalize (p18 (p10 l.a)).2 = x
  cases x <;> simp [sel]
theorem law5 (l : LL) (y : V3) : (S5 [cLL.enc l, cV.enc y] []).run = some (b true, []) := by
  have e : (S5 [cLL.enc l, cV.enc y] []).run = sel (okInts l.a.n (fun k => [i (l.a.g k)]) && okInts l.b.n (fun k => [i (l.b.g k)])) (sel (g5 l y) (some (b (p5 l y), [])) none) none := by kernel_rfl
  rw [e, okInts_can, okInts_can, g5_true, p5_true]
  rfl
end Go.Ev.T
