/- Plain facts: Back, After, Apply and Plane answer as the reference (own work). -/
import Derived.Test.YthbcfinnphpcbaaDoorEvTB
set_option linter.unusedVariables false
set_option linter.unusedSimpArgs false
set_option linter.unnecessarySimpa false
set_option linter.unusedSectionVars false
namespace Go.Ev.T
open Go Go.Ev Go.Proofs
set_option maxRecDepth 100000

theorem sel_t {α : Type} (a c : α) : sel true a c = a := rfl
theorem sel_f {α : Type} (a c : α) : sel false a c = c := rfl
theorem short_eq (v : V3) : p80 v = p81 v := by
  have one : ∀ x : Int, (¬ x < -96 ∧ ¬ x > 96) ↔ (p78 x ≤ 96 ∧ x ≥ -96) := fun x => by
    unfold p78
    constructor
    · intro h
      refine ⟨?_, by omega⟩
      split
      · rw [W_id (by omega) (by omega)]; omega
      · omega
    · intro h
      refine ⟨by omega, ?_⟩
      have := h.1
      split at this
      · omega
      · omega
  rw [Bool.eq_iff_iff]
  simp only [p80, p81, Bool.and_eq_true, Bool.not_eq_true', decide_eq_false_iff_not, decide_eq_true_eq]
  have hx := one v.x
  have hy := one v.y
  have hz := one v.z
  constructor
  · rintro ⟨a, b, c, d, e, f⟩
    have h1 := hx.1 ⟨a, b⟩
    have h2 := hy.1 ⟨c, d⟩
    have h3 := hz.1 ⟨e, f⟩
    exact ⟨h1.1, h2.1, h3.1, h1.2, h2.2, h3.2⟩
  · rintro ⟨a, b, c, d, e, f⟩
    have h1 := hx.2 ⟨a, d⟩
    have h2 := hy.2 ⟨b, e⟩
    have h3 := hz.2 ⟨c, f⟩
    exact ⟨h1.1, h1.2, h2.1, h2.2, h3.1, h3.2⟩
theorem right_eq (f : Frm) : p60 f = p56 f := by
  simp only [p60, p56, short_eq, valid_eq, Bool.and_comm]
theorem div_eq {v : V3} {d : Int} : p62 v d = (bif (p57 v d).2 then (p57 v d).1 else ⟨0, 0, 0⟩, (p57 v d).2) := by
  simp only [p62, p57, bne, Bool.not_not]
  cases (Int.tmod v.x d == 0) <;> cases (Int.tmod v.y d == 0) <;> cases (Int.tmod v.z d == 0) <;> rfl
theorem g12' (t : Trn) : g12 t = true := g12_ok t
theorem g56_ok (f : Frm) : g56 f = true := by simp only [g56, g12_ok, Bool.or_true]
theorem g60_ok (f : Frm) : g60 f = true := by simp only [g60, g13_ok]
theorem g59_ok (m : M3) (d : Int) (s : V3) : g59 m d s = true := by simp only [g59, g56_ok]

theorem valid_d {t : Trn} (h : p12 t = true) : 1 ≤ t.d ∧ t.d ≤ 25 ∧ inM t.m t.d := by
  unfold p12 at h
  simp only [Bool.and_eq_true, Bool.not_eq_true', decide_eq_false_iff_not, Bool.not_eq_false'] at h
  obtain ⟨h1, h2, h3, _⟩ := h
  exact ⟨by omega, by omega, in42 (by omega) (by omega) h3⟩
theorem right_d {f : Frm} (h : p56 f = true) : 1 ≤ f.t.d ∧ f.t.d ≤ 25 ∧ inM f.t.m f.t.d := by
  simp only [p56, Bool.and_eq_true] at h
  exact valid_d h.2
theorem g57_ok (v : V3) {d : Int} (h : 1 ≤ d) : g57 v d = true := by
  unfold g57
  rw [beq_eq_false_iff_ne.2 (by omega)]
  rfl
theorem g62_ok (v : V3) {d : Int} (h : 1 ≤ d) : g62 v d = true := g57_ok v h

/-- Back -/
theorem back_eq (f : Frm) : p18 f = p19 f := by
  have e61 : p61 f.t.m = p45 f.t.m := rfl
  have e63 : ∀ m v, p63 m v = p58 m v := fun _ _ => rfl
  have e64 : ∀ a c, p64 a c = p53 a c := fun _ _ => rfl
  simp only [p18, p19, right_eq, e61, e63, e64, div_eq, p59]
  cases p56 f with
  | false => rfl
  | true =>
    cases h4 : (p57 (p58 (p45 f.t.m) f.s) f.t.d).2 with
    | false => rfl
    | true =>
      simp only [h4, cond_true]
theorem g18_ok (f : Frm) : g18 f = true := by
  simp only [g18, g56_ok, g59_ok, Bool.true_and, Bool.or_true, Bool.and_true]
  cases h : p56 f with
  | false => rfl
  | true => rw [g57_ok _ (right_d h).1]; rfl
theorem g19_ok (f : Frm) : g19 f = true := by
  simp only [g19, g60_ok, right_eq, Bool.true_and, Bool.or_true, Bool.and_true]
  cases h : p56 f with
  | false => rfl
  | true => rw [g62_ok _ (right_d h).1]; rfl

theorem abs_max (x : Int) (h : x ≤ 9223372036854775807) : p78 x ≤ 9223372036854775807 := by
  unfold p78
  have := W_hi (0 - x)
  split <;> omega
theorem abs_pos {d : Int} (h1 : 1 ≤ d) (h2 : d ≤ 9223372036854775807) : p78 d = d := by
  unfold p78
  rw [W_id (n := 0 - d) (by omega) (by omega), if_neg (by omega)]
/-- all elements are machine numbers -/
def wordM (m : M3) : Prop := m.r0.x ≤ 9223372036854775807 ∧ m.r0.y ≤ 9223372036854775807 ∧ m.r0.z ≤ 9223372036854775807 ∧ m.r1.x ≤ 9223372036854775807 ∧ m.r1.y ≤ 9223372036854775807 ∧ m.r1.z ≤ 9223372036854775807 ∧ m.r2.x ≤ 9223372036854775807 ∧ m.r2.y ≤ 9223372036854775807 ∧ m.r2.z ≤ 9223372036854775807
theorem g43_word {m : M3} {d : Int} (h1 : 1 ≤ d) (h : wordM m) : g43 m d = true := by
  obtain ⟨b0, b1, b2, b3, b4, b5, b6, b7, b8⟩ := h
  have hp := gcdP_pos' (a := p78 m.r2.z) (gcdP_pos' (a := p78 m.r2.y) (gcdP_pos' (a := p78 m.r2.x) (gcdP_pos' (a := p78 m.r1.z) (gcdP_pos' (a := p78 m.r1.y) (gcdP_pos' (a := p78 m.r1.x) (gcdP_pos' (a := p78 m.r0.z) (gcdP_pos' (a := p78 m.r0.y) (gcdP_pos' (a := p78 m.r0.x) h1))))))))
  have lt : ∀ {x : Int}, x ≤ 9223372036854775807 → decide (p78 x < 9223372036854775808) = true := fun {x} h => decide_eq_true (by have := abs_max x h; omega)
  unfold g43
  simp only [Bool.and_eq_true]
  refine ⟨lt b0, lt b1, lt b2, lt b3, lt b4, lt b5, lt b6, lt b7, lt b8, ?_⟩
  have : ∀ {x : Int}, 1 ≤ x → (!(x == 0)) = true := fun h => by
    rw [beq_eq_false_iff_ne.2 (by omega)]; rfl
  exact this hp
theorem g52_word {t : Trn} (h : wordM t.m) : g52 t = true := by
  obtain ⟨b0, b1, b2, b3, b4, b5, b6, b7, b8⟩ := h
  have lt : ∀ {g x : Int}, x ≤ 9223372036854775807 → g79 g (p78 x) = true := fun {g x} h => decide_eq_true (by have := abs_max x h; omega)
  unfold g52
  simp only [Bool.and_eq_true]
  exact ⟨lt b0, lt b1, lt b2, lt b3, lt b4, lt b5, lt b6, lt b7, lt b8⟩
theorem word44 (a c : M3) : wordM (p44 a c) := ⟨W_hi _, W_hi _, W_hi _, W_hi _, W_hi _, W_hi _, W_hi _, W_hi _, W_hi _⟩
/-- common, for a number that is not negative -/
theorem common_eq {t : Trn} (h1 : 1 ≤ t.d) (h2 : t.d ≤ 9223372036854775807) : p52 t = (gcdP (gcdP (gcdP (gcdP (gcdP (gcdP (gcdP (gcdP (gcdP t.d (p78 t.m.r0.x)).1 (p78 t.m.r0.y)).1 (p78 t.m.r0.z)).1 (p78 t.m.r1.x)).1 (p78 t.m.r1.y)).1 (p78 t.m.r1.z)).1 (p78 t.m.r2.x)).1 (p78 t.m.r2.y)).1 (p78 t.m.r2.z)).1 := by
  unfold p52 p79
  rw [abs_pos h1 h2]
theorem red_common {t : Trn} (h1 : 1 ≤ t.d) (h2 : t.d ≤ 9223372036854775807) :
    p43 t.m t.d = (⟨⟨W (Int.tdiv t.m.r0.x (p52 t)), W (Int.tdiv t.m.r0.y (p52 t)), W (Int.tdiv t.m.r0.z (p52 t))⟩, ⟨W (Int.tdiv t.m.r1.x (p52 t)), W (Int.tdiv t.m.r1.y (p52 t)), W (Int.tdiv t.m.r1.z (p52 t))⟩, ⟨W (Int.tdiv t.m.r2.x (p52 t)), W (Int.tdiv t.m.r2.y (p52 t)), W (Int.tdiv t.m.r2.z (p52 t))⟩⟩, W (Int.tdiv t.d (p52 t))) := by
  rw [common_eq h1 h2]
  rfl
theorem times_eq (a c : M3) : p44 a c = ⟨⟨p49 a.r0 ⟨c.r0.x, c.r1.x, c.r2.x⟩, p49 a.r0 ⟨c.r0.y, c.r1.y, c.r2.y⟩, p49 a.r0 ⟨c.r0.z, c.r1.z, c.r2.z⟩⟩, ⟨p49 a.r1 ⟨c.r0.x, c.r1.x, c.r2.x⟩, p49 a.r1 ⟨c.r0.y, c.r1.y, c.r2.y⟩, p49 a.r1 ⟨c.r0.z, c.r1.z, c.r2.z⟩⟩, ⟨p49 a.r2 ⟨c.r0.x, c.r1.x, c.r2.x⟩, p49 a.r2 ⟨c.r0.y, c.r1.y, c.r2.y⟩, p49 a.r2 ⟨c.r0.z, c.r1.z, c.r2.z⟩⟩⟩ := by
  simp only [p44, p49, W_addL, W_addR, W_0add]
theorem dd_bound {x y : Frm} (h1 : p56 x = true) (h2 : p56 y = true) : 1 ≤ W (x.t.d * y.t.d) ∧ W (x.t.d * y.t.d) ≤ 9223372036854775807 := by
  obtain ⟨a1, a2, _⟩ := right_d h1
  obtain ⟨b1, b2, _⟩ := right_d h2
  have h3 : 1 * 1 ≤ x.t.d * y.t.d := Int.mul_le_mul a1 b1 (by omega) (by omega)
  have h4 : x.t.d * y.t.d ≤ 25 * 25 := Int.mul_le_mul a2 b2 (by omega) (by omega)
  rw [W_id (by omega) (by omega)]
  omega
set_option maxHeartbeats 1000000 in
/-- After -/
theorem after_eq (x y : Frm) : p20 x y = p21 x y := by
  have e63 : ∀ m v, p63 m v = p58 m v := fun _ _ => rfl
  have e67 : ∀ a c, p67 a c = p65 a c := fun _ _ => rfl
  cases h1 : p56 x with
  | false => simp only [p20, p21, right_eq, h1, Bool.not_false, sel_t, Bool.not_true, Bool.false_and]
  | true =>
    cases h2 : p56 y with
    | false => simp only [p20, p21, right_eq, h1, h2, Bool.not_false, sel_t, sel_f, Bool.not_true, Bool.false_and, Bool.true_and]
    | true =>
      cases h4 : (p57 (p58 y.t.m x.s) y.t.d).2 with
      | false => simp only [p20, p21, right_eq, h1, h2, h4, e63, div_eq, Bool.not_false, sel_t, sel_f, Bool.not_true, Bool.false_and, Bool.true_and]
      | true =>
        obtain ⟨hd1, hd2⟩ := dd_bound h1 h2
        have ht := times_eq y.t.m x.t.m
        have b0 := congrArg (fun m : M3 => m.r0.x) ht
        have b1 := congrArg (fun m : M3 => m.r0.y) ht
        have b2 := congrArg (fun m : M3 => m.r0.z) ht
        have b3 := congrArg (fun m : M3 => m.r1.x) ht
        have b4 := congrArg (fun m : M3 => m.r1.y) ht
        have b5 := congrArg (fun m : M3 => m.r1.z) ht
        have b6 := congrArg (fun m : M3 => m.r2.x) ht
        have b7 := congrArg (fun m : M3 => m.r2.y) ht
        have b8 := congrArg (fun m : M3 => m.r2.z) ht
        simp only at b0 b1 b2 b3 b4 b5 b6 b7 b8
        simp only [p20, p21, right_eq, h1, h2, h4, e63, e67, div_eq, Bool.not_false, sel_t, sel_f, Bool.not_true, Bool.true_and, cond_true, ← b0, ← b1, ← b2, ← b3, ← b4, ← b5, ← b6, ← b7, ← b8]
        clear b0 b1 b2 b3 b4 b5 b6 b7 b8 ht
        generalize p44 y.t.m x.t.m = A
        generalize W (x.t.d * y.t.d) = D at hd1 hd2 ⊢
        generalize p65 _ _ = s
        obtain ⟨⟨a0, a1, a2⟩, ⟨a3, a4, a5⟩, ⟨a6, a7, a8⟩⟩ := A
        have hr := red_common (t := ⟨⟨⟨a0, a1, a2⟩, ⟨a3, a4, a5⟩, ⟨a6, a7, a8⟩⟩, D⟩) hd1 hd2
        simp only at hr
        rw [hr]
        generalize p52 _ = c
        simp only [p59]
theorem g20_ok (x y : Frm) : g20 x y = true := by
  simp only [g20, g56_ok, g59_ok, Bool.true_and, Bool.or_true, Bool.and_true]
  cases h1 : p56 x with
  | false => rfl
  | true =>
    cases h2 : p56 y with
    | false => rfl
    | true =>
      rw [g57_ok _ (right_d h2).1, g43_word (dd_bound h1 h2).1 (word44 _ _)]
      simp
theorem g21_ok (x y : Frm) : g21 x y = true := by
  simp only [g21, g60_ok, right_eq, Bool.true_and, Bool.or_true, Bool.and_true]
  cases h1 : p56 x with
  | false => rfl
  | true =>
    cases h2 : p56 y with
    | false => rfl
    | true =>
      obtain ⟨hd1, hd2⟩ := dd_bound h1 h2
      generalize hT : (⟨(⟨(⟨p49 y.t.m.r0 ⟨x.t.m.r0.x, x.t.m.r1.x, x.t.m.r2.x⟩, p49 y.t.m.r0 ⟨x.t.m.r0.y, x.t.m.r1.y, x.t.m.r2.y⟩, p49 y.t.m.r0 ⟨x.t.m.r0.z, x.t.m.r1.z, x.t.m.r2.z⟩⟩ : V3), (⟨p49 y.t.m.r1 ⟨x.t.m.r0.x, x.t.m.r1.x, x.t.m.r2.x⟩, p49 y.t.m.r1 ⟨x.t.m.r0.y, x.t.m.r1.y, x.t.m.r2.y⟩, p49 y.t.m.r1 ⟨x.t.m.r0.z, x.t.m.r1.z, x.t.m.r2.z⟩⟩ : V3), (⟨p49 y.t.m.r2 ⟨x.t.m.r0.x, x.t.m.r1.x, x.t.m.r2.x⟩, p49 y.t.m.r2 ⟨x.t.m.r0.y, x.t.m.r1.y, x.t.m.r2.y⟩, p49 y.t.m.r2 ⟨x.t.m.r0.z, x.t.m.r1.z, x.t.m.r2.z⟩⟩ : V3)⟩ : M3), W (x.t.d * y.t.d)⟩ : Trn) = T
      have hw : g52 T = true := by rw [← hT]; exact g52_word ⟨W_hi _, W_hi _, W_hi _, W_hi _, W_hi _, W_hi _, W_hi _, W_hi _, W_hi _⟩
      have hd : T.d = W (x.t.d * y.t.d) := by rw [← hT]
      rw [hw]
      have hc : ∀ t : Trn, t.d = W (x.t.d * y.t.d) → (p52 t == 0) = false := fun t e => by
        rw [common_eq (t := t) (by rw [e]; exact hd1) (by rw [e]; exact hd2)]
        refine beq_eq_false_iff_ne.2 ?_
        have hp := gcdP_pos' (a := p78 t.m.r2.z) (gcdP_pos' (a := p78 t.m.r2.y) (gcdP_pos' (a := p78 t.m.r2.x) (gcdP_pos' (a := p78 t.m.r1.z) (gcdP_pos' (a := p78 t.m.r1.y) (gcdP_pos' (a := p78 t.m.r1.x) (gcdP_pos' (a := p78 t.m.r0.z) (gcdP_pos' (a := p78 t.m.r0.y) (gcdP_pos' (a := p78 t.m.r0.x) (g := t.d) (by rw [e]; exact hd1)))))))))
        omega
      rw [hc T hd, g62_ok _ (right_d h2).1]
      simp
end Go.Ev.T
