/- Own work: a part of the proof. -/
import Derived.Test.YtlccibobknidjaaEvIEB
import Derived.Test.YtlccibobknidjaaEvIE2
import Derived.Test.YtlccibobknidjaaEvFz
import Derived.ChangeStays
import Derived.ChangeSame
import Derived.OpenShut
import Derived.RowKit
import Derived.Test.YtlccibobknidjaaEvSp7
set_option linter.unusedVariables false
set_option linter.unusedSimpArgs false
set_option linter.unnecessarySimpa false
set_option linter.unusedSectionVars false
namespace Go.Ev.Ce
open Go Go.Ev Go.Ev.L Go.Proofs
def Yc9 : List Pln → Pln → List Pln
 | [], y => [y]
 | a :: l, y => if Ja7 a y < 0 then a :: Yc9 l y else if eqP a y then a :: l else y :: a :: l
end Go.Ev.Ce
namespace Go.Ev.Ce
def rmZ (p : Pln) (x : Pt) : Int := p.b * x.pw - (p.n.x * x.px + p.n.y * x.py + p.n.z * x.pz)
structure Inr (r : List Pln) (x : Pt) : Prop where
 w : 0 < x.pw
 h : ∀ p ∈ r, 0 ≤ rmZ p x
def Pc7 (p : Pln) : Pln := ⟨⟨-p.n.x, -p.n.y, -p.n.z⟩, -p.b⟩
theorem nc4 (p : Pln) (x : Pt) : rmZ (Pc7 p) x = -rmZ p x := by unfold rmZ Pc7; grind
structure Cn (r : List Pln) (x : Pt) : Prop extends Inr r x where
 c : ∃ p q s, p ∈ r ∧ q ∈ r ∧ s ∈ r ∧ mw p q s ≠ 0 ∧ rmZ p x = 0 ∧ rmZ q x = 0 ∧ rmZ s x = 0
def Bdd (r : List Pln) : Prop := ∀ d : V3, d ≠ ⟨0, 0, 0⟩ → ∃ p ∈ r, 0 < dot p.n d
def go (x : Pt) (q : Pln) (d : V3) : Pt := ⟨x.px * dot q.n d + rmZ q x * d.x, x.py * dot q.n d + rmZ q x * d.y, x.pz * dot q.n d + rmZ q x * d.z, x.pw * dot q.n d⟩
theorem zc5 (p q : Pln) (x : Pt) (d : V3) : rmZ p (go x q d) = dot q.n d * rmZ p x - rmZ q x * dot p.n d := by simp only [rmZ, go, dot]; grind
theorem va4 {a b c : Int} (hc : 0 < c) (h : a * c ≤ b * c) : a ≤ b := Int.le_of_mul_le_mul_right h hc
theorem first (x : Pt) (d : V3) : ∀ r : List Pln, (∀ p ∈ r, 0 ≤ rmZ p x) → (∃ p ∈ r, 0 < dot p.n d) → ∃ q ∈ r, 0 < dot q.n d ∧ ∀ p ∈ r, 0 < dot p.n d → rmZ q x * dot p.n d ≤ rmZ p x * dot q.n d
 | [], _, h => by obtain ⟨p, hp, _⟩ := h; cases hp
 | a :: r, hx, h => by
  by_cases hr : ∃ p ∈ r, 0 < dot p.n d
  ·obtain ⟨q, hq, h1, h2⟩ := first x d r (fun p hp => hx p (List.mem_cons_of_mem _ hp)) hr
   by_cases ha : 0 < dot a.n d
   ·by_cases hc : rmZ q x * dot a.n d ≤ rmZ a x * dot q.n d
    ·refine ⟨q, List.mem_cons_of_mem _ hq, h1, fun p hp h3 => ?_⟩
     rcases List.mem_cons.1 hp with rfl | hp
     ·exact hc
     ·exact h2 p hp h3
    ·refine ⟨a, List.mem_cons_self, ha, fun p hp h3 => ?_⟩
     rcases List.mem_cons.1 hp with rfl | hp
     ·exact Int.le_refl _
     ·have h4 := h2 p hp h3
      have h5 : rmZ a x * dot q.n d < rmZ q x * dot a.n d := by omega
      have h6 := Int.mul_le_mul_of_nonneg_right h4 (Int.le_of_lt ha)
      have h7 := Int.mul_lt_mul_of_pos_right h5 h3
      have e1 : rmZ q x * dot p.n d * dot a.n d = rmZ q x * dot a.n d * dot p.n d := by grind
      have e2 : rmZ a x * dot q.n d * dot p.n d = rmZ a x * dot p.n d * dot q.n d := by grind
      have e3 : rmZ p x * dot q.n d * dot a.n d = rmZ p x * dot a.n d * dot q.n d := by grind
      refine va4 h1 ?_
      omega
   ·refine ⟨q, List.mem_cons_of_mem _ hq, h1, fun p hp h3 => ?_⟩
    rcases List.mem_cons.1 hp with rfl | hp
    ·exact absurd h3 ha
    ·exact h2 p hp h3
  ·have ha : 0 < dot a.n d := by
    obtain ⟨p, hp, h3⟩ := h
    rcases List.mem_cons.1 hp with rfl | hp
    ·exact h3
    ·exact absurd ⟨p, hp, h3⟩ hr
   refine ⟨a, List.mem_cons_self, ha, fun p hp h3 => ?_⟩
   rcases List.mem_cons.1 hp with rfl | hp
   ·exact Int.le_refl _
   ·exact absurd ⟨p, hp, h3⟩ hr
theorem step {r : List Pln} {x : Pt} (hx : Inr r x) (d : V3) (h : ∃ p ∈ r, 0 < dot p.n d) : ∃ q ∈ r, 0 < dot q.n d ∧ Inr r (go x q d) := by
 obtain ⟨q, hq, h1, h2⟩ := first x d r hx.h h
 refine ⟨q, hq, h1, ⟨Int.mul_pos hx.w h1, fun p hp => ?_⟩⟩
 rw [zc5]
 have h3 := hx.h p hp
 have h4 := hx.h q hq
 by_cases h5 : 0 < dot p.n d
 ·have := h2 p hp h5
  have e : rmZ p x * dot q.n d = dot q.n d * rmZ p x := Int.mul_comm _ _
  omega
 ·have h6 := Int.mul_nonneg (Int.le_of_lt h1) h3
  have h7 : rmZ q x * dot p.n d ≤ 0 := Int.mul_nonpos_of_nonneg_of_nonpos h4 (by omega)
  omega
theorem Pc8 {h q : Pln} {x : Pt} {d : V3} (h1 : 0 ≤ rmZ q x) (h2 : 0 ≤ dot h.n d) : rmZ h (go x q d) * x.pw ≤ rmZ h x * (go x q d).pw ∨ x.pw ≤ 0 := by
 rcases Int.lt_or_le 0 x.pw with hw | hw
 ·left
  rw [zc5]
  have := Int.mul_nonneg h1 h2
  have h3 := Int.mul_nonneg this (Int.le_of_lt hw)
  have e : rmZ h x * (go x q d).pw = dot q.n d * rmZ h x * x.pw := by unfold go; grind
  have e2 : (dot q.n d * rmZ h x - rmZ q x * dot h.n d) * x.pw = dot q.n d * rmZ h x * x.pw - rmZ q x * dot h.n d * x.pw := by grind
  omega
 ·exact .inr hw
def neg (d : V3) : V3 := ⟨-d.x, -d.y, -d.z⟩
theorem zc6 (a d : V3) : dot a (neg d) = -dot a d := by unfold dot neg; grind
theorem jd1 {d : V3} (h : d ≠ ⟨0, 0, 0⟩) : neg d ≠ ⟨0, 0, 0⟩ := fun h' => h (by
 cases d; unfold neg at h'; simp only [V3.mk.injEq] at h' ⊢; omega)
theorem turn (h : Pln) {d : V3} (hd : d ≠ ⟨0, 0, 0⟩) : ∃ e, e ≠ (⟨0, 0, 0⟩ : V3) ∧ 0 ≤ dot h.n e ∧ ∀ a, dot a d = 0 → dot a e = 0 := by
 by_cases h1 : 0 ≤ dot h.n d
 ·exact ⟨d, hd, h1, fun _ h => h⟩
 ·exact ⟨neg d, jd1 hd, by rw [zc6]; omega, fun a h => by rw [zc6, h]; rfl⟩
theorem td7 {n : V3} (hn : n ≠ ⟨0, 0, 0⟩) : ∃ d, d ≠ (⟨0, 0, 0⟩ : V3) ∧ dot n d = 0 := by
 by_cases h : n.x = 0 ∧ n.y = 0
 ·exact ⟨⟨1, 0, 0⟩, by simp, by unfold dot; simp [h.1]⟩
 ·refine ⟨⟨n.y, -n.x, 0⟩, fun h' => h ?_, by unfold dot; grind⟩
  simp only [V3.mk.injEq] at h'
  omega
theorem V3.ext' {a b : V3} (h1 : a.x = b.x) (h2 : a.y = b.y) (h3 : a.z = b.z) : a = b := by cases a; cases b; simp_all
theorem Pc9 {m n d : V3} (hm : m ≠ ⟨0, 0, 0⟩) (h1 : dot m d = 0) (h2 : dot n d ≠ 0) : o4 m n ≠ ⟨0, 0, 0⟩ := fun h => by
 unfold o4 at h
 simp only [V3.mk.injEq] at h
 obtain ⟨c1, c2, c3⟩ := h
 unfold dot at h1 h2
 have e1 : m.x * (n.x * d.x + n.y * d.y + n.z * d.z) = 0 := by grind
 have e2 : m.y * (n.x * d.x + n.y * d.y + n.z * d.z) = 0 := by grind
 have e3 : m.z * (n.x * d.x + n.y * d.y + n.z * d.z) = 0 := by grind
 have k : ∀ {a : Int}, a * (n.x * d.x + n.y * d.y + n.z * d.z) = 0 → a = 0 := fun h => (Int.mul_eq_zero.1 h).resolve_right h2
 exact hm (V3.ext' (k e1) (k e2) (k e3))
theorem nc5 (a b : V3) : dot a (o4 a b) = 0 := by unfold dot o4; grind
theorem nc6 (a b : V3) : dot b (o4 a b) = 0 := by unfold dot o4; grind
theorem Qc0 {p q : Pln} {x : Pt} {d : V3} (h : rmZ p x = 0) (h' : dot p.n d = 0) : rmZ p (go x q d) = 0 := by rw [zc5, h, h']; simp
theorem Qc1 (q : Pln) (x : Pt) (d : V3) : rmZ q (go x q d) = 0 := by rw [zc5]; grind
theorem pd1 {q : Pln} {d : V3} (h : 0 < dot q.n d) : q.n ≠ ⟨0, 0, 0⟩ := fun h' => by rw [h'] at h; unfold dot at h; simp at h
theorem cd3 {a b c u v w : Int} (hu : 0 < u) (hv : 0 < v) (hw : 0 < w) (h1 : a * v ≤ b * u) (h2 : b * w ≤ c * v) : a * w ≤ c * u := by
 have h3 := Int.mul_le_mul_of_nonneg_right h1 (Int.le_of_lt hw)
 have h4 := Int.mul_le_mul_of_nonneg_right h2 (Int.le_of_lt hu)
 have e1 : a * v * w = a * w * v := by grind
 have e2 : b * u * w = b * w * u := by grind
 have e3 : c * v * u = c * u * v := by grind
 exact va4 hv (by omega)
theorem jd2 {r : List Pln} (hb : Bdd r) (h : Pln) {x : Pt} (hx : Inr r x) : ∃ v, Cn r v ∧ rmZ h v * x.pw ≤ rmZ h x * v.pw := by
 obtain ⟨d0, n0, p0, _⟩ := turn h (d := ⟨1, 0, 0⟩) (by simp)
 obtain ⟨q1, m1, k1, i1⟩ := step hx d0 (hb d0 n0)
 have l1 := (Pc8 (h := h) (x := x) (hx.h q1 m1) p0).resolve_right (by have := hx.w; omega)
 obtain ⟨e1, ne1, he1⟩ := td7 (pd1 k1)
 obtain ⟨d1, n1, p1, z1⟩ := turn h ne1
 obtain ⟨q2, m2, k2, i2⟩ := step i1 d1 (hb d1 n1)
 have l2 := (Pc8 (h := h) (x := go x q1 d0) (i1.h q2 m2) p1).resolve_right (by have := i1.w; omega)
 have hc := Pc9 (pd1 k1) (z1 _ he1) (n := q2.n) (by omega)
 obtain ⟨d2, n2, p2, z2⟩ := turn h hc
 obtain ⟨q3, m3, k3, i3⟩ := step i2 d2 (hb d2 n2)
 have l3 := (Pc8 (h := h) (x := go (go x q1 d0) q2 d1) (i2.h q3 m3) p2).resolve_right (by have := i2.w; omega)
 have a1 : rmZ q1 (go (go x q1 d0) q2 d1) = 0 := Qc0 (Qc1 _ _ _) (z1 _ he1)
 refine ⟨_, ⟨i3, q3, q1, q2, m3, m1, m2, fun h0 => ?_, Qc1 _ _ _, Qc0 a1 (z2 _ (nc5 _ _)), Qc0 (Qc1 _ _ _) (z2 _ (nc6 _ _))⟩, ?_⟩
 ·have : dot q3.n d2 = 0 := z2 _ h0
  omega
 ·exact cd3 i3.w i2.w hx.w l3 (cd3 i2.w i1.w hx.w l2 l1)
theorem Cb6 {r : List Pln} (hb : Bdd r) {h : Pln} (hv : ∀ v, Cn r v → 0 ≤ rmZ h v) {x : Pt} (hx : Inr r x) : 0 ≤ rmZ h x := by
 obtain ⟨v, h1, h2⟩ := jd2 hb h hx
 have h3 := Int.mul_nonneg (hv v h1) (Int.le_of_lt hx.w)
 exact va4 h1.w (by rw [Int.zero_mul]; omega)
def mid (x y : Pt) : Pt := ⟨x.px * y.pw + y.px * x.pw, x.py * y.pw + y.py * x.pw, x.pz * y.pw + y.pz * x.pw, 2 * (x.pw * y.pw)⟩
theorem Qc2 (p : Pln) (x y : Pt) : rmZ p (mid x y) = rmZ p x * y.pw + rmZ p y * x.pw := by unfold rmZ mid; grind
theorem Inr.mid {r : List Pln} {x y : Pt} (hx : Inr r x) (hy : Inr r y) : Inr r (mid x y) := ⟨by unfold Ce.mid; exact Int.mul_pos (by decide) (Int.mul_pos hx.w hy.w), fun p hp => by
 rw [Qc2]
 exact Int.add_nonneg (Int.mul_nonneg (hx.h p hp) (Int.le_of_lt hy.w)) (Int.mul_nonneg (hy.h p hp) (Int.le_of_lt hx.w))⟩
def Zc0 (r : List Pln) : Prop := ∃ x : Pt, 0 < x.pw ∧ ∀ p ∈ r, 0 < rmZ p x
theorem zc7 {r : List Pln} : ∀ (l : List Pln), (∀ p ∈ l, p ∈ r) → (∃ x, Inr r x) → (∀ p ∈ l, ∃ v, Inr r v ∧ 0 < rmZ p v) → ∃ x, Inr r x ∧ ∀ p ∈ l, 0 < rmZ p x
 | [], _, h, _ => by obtain ⟨x, h⟩ := h; exact ⟨x, h, fun p hp => by cases hp⟩
 | a :: l, hl, h, hv => by
  obtain ⟨x, h1, h2⟩ := zc7 l (fun p hp => hl p (List.mem_cons_of_mem _ hp)) h (fun p hp => hv p (List.mem_cons_of_mem _ hp))
  obtain ⟨y, h3, h4⟩ := hv a List.mem_cons_self
  refine ⟨mid x y, h1.mid h3, fun p hp => ?_⟩
  rw [Qc2]
  rcases List.mem_cons.1 hp with rfl | hp
  ·have := Int.mul_nonneg (h1.h p (hl p List.mem_cons_self)) (Int.le_of_lt h3.w)
   have := Int.mul_pos h4 h1.w
   omega
  ·have := Int.mul_pos (h2 p hp) h3.w
   have := Int.mul_nonneg (h3.h p (hl p (List.mem_cons_of_mem _ hp))) (Int.le_of_lt h1.w)
   omega
theorem Qc3 {r : List Pln} (hb : Bdd r) (h0 : r ≠ []) : Zc0 r ↔ ∀ p ∈ r, ∃ v, Cn r v ∧ 0 < rmZ p v := by
 constructor
 ·intro ⟨x, hw, hx⟩ p hp
  by_cases h : ∃ v, Cn r v ∧ 0 < rmZ p v
  ·exact h
  ·have hx' : Inr r x := ⟨hw, fun q hq => Int.le_of_lt (hx q hq)⟩
   have := Cb6 hb (h := Pc7 p) (fun v hv => by
    rw [nc4]
    have : ¬ 0 < rmZ p v := fun h' => h ⟨v, hv, h'⟩
    omega) hx'
   rw [nc4] at this
   have := hx p hp
   omega
 ·intro h
  obtain ⟨p, hp⟩ := List.exists_mem_of_ne_nil r h0
  obtain ⟨v, hv, _⟩ := h p hp
  obtain ⟨x, h1, h2⟩ := zc7 r (fun _ h => h) ⟨v, hv.toInr⟩ fun p hp => by
   obtain ⟨v, hv, h⟩ := h p hp
   exact ⟨v, hv.toInr, h⟩
  exact ⟨x, h1.w, h2⟩
structure Eqv (x v : Pt) : Prop where
 e1 : x.px * v.pw = v.px * x.pw
 e2 : x.py * v.pw = v.py * x.pw
 e3 : x.pz * v.pw = v.pz * x.pw
theorem Eqv.rm {x v : Pt} (h : Eqv x v) (p : Pln) : rmZ p x * v.pw = rmZ p v * x.pw := by
 obtain ⟨e1, e2, e3⟩ := h
 unfold rmZ
 grind
theorem Eqv.inr {r : List Pln} {x v : Pt} (h : Eqv x v) (hw : 0 < x.pw) (hv : Inr r v) : Inr r x := ⟨hw, fun p hp => by
 have := h.rm p
 have h2 := Int.mul_nonneg (hv.h p hp) (Int.le_of_lt hw)
 exact va4 hv.w (by rw [Int.zero_mul]; omega)⟩
end Go.Ev.Ce
namespace Go.Ev.Ce
open Go Go.Ev Go.Ev.L Go.Proofs
theorem uc5 {p : Pln} {x : Pt} (hp : Bd p) (hx : Okx x) : rm p x = rmZ p x := by
 unfold rm rmZ
 obtain ⟨w1, w2, ⟨a1, a2⟩, ⟨a3, a4⟩, a5, a6⟩ := hx
 have h0 := mb hp.b1 hp.b2 (show -600000000000 ≤ x.pw by omega) w2
 have h1 := mb hp.x1 hp.x2 a1 a2
 have h2 := mb hp.y1 hp.y2 a3 a4
 have h3 := mb hp.z1 hp.z2 a5 a6
 exact Ca1 (by omega) (by omega)
theorem zc8 {r : List Pln} (hb : Bds r) {x : Pt} (hx : Okx x) : inn r x = true ↔ Inr r x := by
 unfold inn
 rw [List.all_eq_true]
 constructor
 ·intro h
  refine ⟨hx.w1, fun p hp => ?_⟩
  have := h p hp
  rw [uc5 (hb p hp) hx] at this
  simpa using this
 ·intro h p hp
  rw [uc5 (hb p hp) hx]
  simpa using h.h p hp
theorem Qc4 {p q s : Pln} (h : (mpt p q s).2 = true) : mw p q s ≠ 0 ∧ ∃ k : Int, k ≠ 0 ∧ k * (mpt p q s).1.px = (mv p q s).x ∧ k * (mpt p q s).1.py = (mv p q s).y ∧ k * (mpt p q s).1.pz = (mv p q s).z ∧ k * (mpt p q s).1.pw = mw p q s := by
 unfold mpt at h ⊢
 by_cases h0 : mw p q s = 0
 ·rw [if_pos h0] at h; cases h
 refine ⟨h0, ?_⟩
 have hg := bc0 (v := mv p q s) h0
 have dv : ∀ {x : Int}, (gc (mv p q s) (mw p q s)) ∣ x → gc (mv p q s) (mw p q s) * Int.tdiv x (gc (mv p q s) (mw p q s)) = x := fun h => Int.mul_tdiv_cancel' h
 have d1 : gc (mv p q s) (mw p q s) ∣ (mv p q s).x := by
  rw [← Int.dvd_natAbs]; exact Int.natCast_dvd_natCast.2 (Nat.dvd_trans (Nat.gcd_dvd_left _ _) (Nat.gcd_dvd_left _ _))
 have d2 : gc (mv p q s) (mw p q s) ∣ (mv p q s).y := by
  rw [← Int.dvd_natAbs]; exact Int.natCast_dvd_natCast.2 (Nat.dvd_trans (Nat.gcd_dvd_left _ _) (Nat.gcd_dvd_right _ _))
 have d3 : gc (mv p q s) (mw p q s) ∣ (mv p q s).z := by
  rw [← Int.dvd_natAbs]; exact Int.natCast_dvd_natCast.2 (Nat.dvd_trans (Nat.gcd_dvd_right _ _) (Nat.gcd_dvd_left _ _))
 have d4 : gc (mv p q s) (mw p q s) ∣ mw p q s := by
  rw [← Int.dvd_natAbs]; exact Int.natCast_dvd_natCast.2 (Nat.dvd_trans (Nat.gcd_dvd_right _ _) (Nat.gcd_dvd_right _ _))
 rw [if_neg h0]
 by_cases h1 : mw p q s < 0
 ·rw [if_pos h1]
  have e : ∀ {x : Int}, (gc (mv p q s) (mw p q s)) ∣ x → -(gc (mv p q s) (mw p q s)) * Int.tdiv (-x) (gc (mv p q s) (mw p q s)) = x := fun {x} h => by
   rw [Int.neg_mul, dv ((Int.dvd_neg).2 h), Int.neg_neg]
  exact ⟨-(gc (mv p q s) (mw p q s)), by omega, e d1, e d2, e d3, e d4⟩
 ·rw [if_neg h1]
  exact ⟨gc (mv p q s) (mw p q s), by omega, dv d1, dv d2, dv d3, dv d4⟩
theorem Qc5 {p q s : Pln} (h : (mpt p q s).2 = true) : rmZ p (mpt p q s).1 = 0 ∧ rmZ q (mpt p q s).1 = 0 ∧ rmZ s (mpt p q s).1 = 0 := by
 obtain ⟨_, k, hk, e1, e2, e3, e4⟩ := Qc4 h
 generalize (mpt p q s).1 = x at *
 have f : ∀ a : Pln, a.b * mw p q s - (a.n.x * (mv p q s).x + a.n.y * (mv p q s).y + a.n.z * (mv p q s).z) = 0 → rmZ a x = 0 := fun a ha => by
  rw [← e1, ← e2, ← e3, ← e4] at ha
  have : k * rmZ a x = 0 := by rw [← ha]; unfold rmZ; grind
  exact (Int.mul_eq_zero.1 this).resolve_left hk
 refine ⟨f p ?_, f q ?_, f s ?_⟩ <;> (simp only [mw, mv, dot, o4]; grind)
theorem Zc1 {p q s : Pln} (h : mw p q s ≠ 0) : (mpt p q s).2 = true := by
 unfold mpt
 rw [if_neg h]
 split <;> rfl
theorem Qc6 {p q s : Pln} {x : Pt} (h1 : rmZ p x = 0) (h2 : rmZ q x = 0) (h3 : rmZ s x = 0) : mw p q s * x.px = (mv p q s).x * x.pw ∧ mw p q s * x.py = (mv p q s).y * x.pw ∧ mw p q s * x.pz = (mv p q s).z * x.pw := by
 have i1 : (mv p q s).x * x.pw - mw p q s * x.px = (o4 q.n s.n).x * rmZ p x + (o4 s.n p.n).x * rmZ q x + (o4 p.n q.n).x * rmZ s x := by simp only [mw, mv, dot, o4, rmZ]; grind
 have i2 : (mv p q s).y * x.pw - mw p q s * x.py = (o4 q.n s.n).y * rmZ p x + (o4 s.n p.n).y * rmZ q x + (o4 p.n q.n).y * rmZ s x := by simp only [mw, mv, dot, o4, rmZ]; grind
 have i3 : (mv p q s).z * x.pw - mw p q s * x.pz = (o4 q.n s.n).z * rmZ p x + (o4 s.n p.n).z * rmZ q x + (o4 p.n q.n).z * rmZ s x := by simp only [mw, mv, dot, o4, rmZ]; grind
 rw [h1, h2, h3] at i1 i2 i3
 simp only [Int.mul_zero, Int.add_zero] at i1 i2 i3
 omega
theorem jd3 {p q s : Pln} {x v : Pt} (h : mw p q s ≠ 0) (h1 : rmZ p x = 0) (h2 : rmZ q x = 0) (h3 : rmZ s x = 0) (k1 : rmZ p v = 0) (k2 : rmZ q v = 0) (k3 : rmZ s v = 0) : Eqv x v := by
 obtain ⟨a1, a2, a3⟩ := Qc6 h1 h2 h3
 obtain ⟨c1, c2, c3⟩ := Qc6 k1 k2 k3
 have f : ∀ {a c m : Int}, mw p q s * a = m * x.pw → mw p q s * c = m * v.pw → a * v.pw = c * x.pw := fun {a c m} ha hc => by
  have : mw p q s * (a * v.pw - c * x.pw) = 0 := by grind
  have := (Int.mul_eq_zero.1 this).resolve_left h
  omega
 exact ⟨f a1 c1, f a2 c2, f a3 c3⟩
theorem Fc5 {r : List Pln} {p q : Pln} {out : List Pt} {s : Pln} {x : Pt} (h : x ∈ out) : x ∈ oa6 r p q out s := by
 unfold oa6
 split
 ·exact List.mem_append_left _ h
 ·exact h
theorem Nb2 {r : List Pln} {p q : Pln} {x : Pt} : ∀ {l : List Pln} {out : List Pt}, x ∈ out → x ∈ Ta4 r p q l out
 | [], _, h => h
 | s :: l, out, h => Nb2 (l := l) (out := oa6 r p q out s) (Fc5 h)
theorem tb0 {r : List Pln} {p : Pln} {x : Pt} : ∀ {l : List Pln} {out : List Pt}, x ∈ out → x ∈ Ia9 r p l out
 | [], _, h => h
 | _ :: l, _, h => tb0 (l := l) (Nb2 h)
theorem nc7 {r : List Pln} {x : Pt} : ∀ {l : List Pln} {out : List Pt}, x ∈ out → x ∈ xb3 r l out
 | [], _, h => h
 | _ :: l, _, h => nc7 (l := l) (tb0 h)
theorem Fc6 {r : List Pln} {p q : Pln} {out : List Pt} {s : Pln} (h1 : (mpt p q s).2 = true) (h2 : inn r (mpt p q s).1 = true) : (mpt p q s).1 ∈ oa6 r p q out s := by
 unfold oa6
 rw [h1, h2]
 cases h : Bb9 out (mpt p q s).1 with
 | true => simpa using (Mc9 _ _).1 h
 | false => simp
theorem Nb3 {r : List Pln} {p q s : Pln} (h1 : (mpt p q s).2 = true) (h2 : inn r (mpt p q s).1 = true) : ∀ {l : List Pln} {out : List Pt}, s ∈ l → (mpt p q s).1 ∈ Ta4 r p q l out
 | [], _, h => by cases h
 | t :: l, out, h => by
  show _ ∈ Ta4 r p q l (oa6 r p q out t)
  rcases List.mem_cons.1 h with rfl | h
  ·exact Nb2 (Fc6 h1 h2)
  ·exact Nb3 h1 h2 h
structure Hit (r : List Pln) (Q : Pt → Prop) (p q s : Pln) : Prop where
 h1 : (mpt p q s).2 = true
 h2 : inn r (mpt p q s).1 = true
 h3 : Q (mpt p q s).1
theorem nc8 {r : List Pln} {Q : Pt → Prop} {p q s : Pln} (hq : Hit r Q p q s) (hs : Hit r Q p s q) (hne : q ≠ s) : ∀ {l : List Pln} {out : List Pt}, q ∈ l → s ∈ l → ∃ x ∈ Ia9 r p l out, Q x
 | [], _, h, _ => by cases h
 | t :: l, out, hql, hsl => by
  show ∃ x ∈ Ia9 r p l (Ta4 r p t l out), Q x
  rcases List.mem_cons.1 hql with rfl | h1
  ·have h2 := (List.mem_cons.1 hsl).resolve_left fun h => hne h.symm
   exact ⟨_, tb0 (Nb3 hq.h1 hq.h2 h2), hq.h3⟩
  ·rcases List.mem_cons.1 hsl with rfl | h2
   ·exact ⟨_, tb0 (Nb3 hs.h1 hs.h2 h1), hs.h3⟩
   ·exact nc8 hq hs hne (l := l) h1 h2
theorem nc9 {r : List Pln} {Q : Pt → Prop} {p q s : Pln} (H : ∀ a c d, (a = p ∨ a = q ∨ a = s) → (c = p ∨ c = q ∨ c = s) → (d = p ∨ d = q ∨ d = s) → a ≠ c → c ≠ d → a ≠ d → Hit r Q a c d) (h1 : p ≠ q) (h2 : q ≠ s) (h3 : p ≠ s) :
  ∀ {l : List Pln} {out : List Pt}, p ∈ l → q ∈ l → s ∈ l → ∃ x ∈ xb3 r l out, Q x
 | [], _, h, _, _ => by cases h
 | t :: l, out, hp, hq, hs => by
  have fin : ∀ {a c d : Pln} {out : List Pt}, (a = p ∨ a = q ∨ a = s) → (c = p ∨ c = q ∨ c = s) → (d = p ∨ d = q ∨ d = s) → a ≠ c → c ≠ d → a ≠ d → c ∈ l → d ∈ l → ∃ x ∈ xb3 r l (Ia9 r a l out), Q x := fun ha hc hd n1 n2 n3 m1 m2 => by
   obtain ⟨x, hx, hQ⟩ := nc8 (H _ _ _ ha hc hd n1 n2 n3) (H _ _ _ ha hd hc n3 n2.symm n1) n2 (out := _) m1 m2
   exact ⟨x, nc7 hx, hQ⟩
  show ∃ x ∈ xb3 r l (Ia9 r t l out), Q x
  rcases List.mem_cons.1 hp with rfl | hp'
  ·exact fin (.inl rfl) (.inr (.inl rfl)) (.inr (.inr rfl)) h1 h2 h3 ((List.mem_cons.1 hq).resolve_left (Ne.symm h1)) ((List.mem_cons.1 hs).resolve_left (Ne.symm h3))
  ·rcases List.mem_cons.1 hq with rfl | hq'
   ·exact fin (.inr (.inl rfl)) (.inl rfl) (.inr (.inr rfl)) (Ne.symm h1) h3 h2 hp' ((List.mem_cons.1 hs).resolve_left (Ne.symm h2))
   ·rcases List.mem_cons.1 hs with rfl | hs'
    ·exact fin (.inr (.inr rfl)) (.inl rfl) (.inr (.inl rfl)) (Ne.symm h3) h1 (Ne.symm h2) hp' hq'
    ·exact nc9 H h1 h2 h3 hp' hq' hs'
theorem pd2 {p q s : Pln} (h : mw p q s ≠ 0) : p ≠ q ∧ q ≠ s ∧ p ≠ s := by
 refine ⟨fun e => h ?_, fun e => h ?_, fun e => h ?_⟩ <;> (subst e; simp only [mw, dot, o4]; grind)
theorem Qc7 {r : List Pln} (hb : Bds r) : ∀ x ∈ cor r, Cn r x := bc5 fun p hp q hq s hs h hi => by
 obtain ⟨w1, w2, w3, w4, w5⟩ := tc6 (hb p hp) (hb q hq) (hb s hs) h
 obtain ⟨e1, e2, e3⟩ := Qc5 h
 exact ⟨(zc8 hb ⟨w1, w5, w2, w3, w4⟩).1 hi, p, q, s, hp, hq, hs, (Qc4 h).1, e1, e2, e3⟩
theorem Qc8 {r : List Pln} (hb : Bds r) {v : Pt} (hv : Cn r v) : ∃ x ∈ cor r, Eqv x v := by
 obtain ⟨p, q, s, hp, hq, hs, hw, e1, e2, e3⟩ := hv.c
 obtain ⟨n1, n2, n3⟩ := pd2 hw
 refine nc9 (fun a c d ha hc hd m1 m2 m3 => ?_) n1 n2 n3 hp hq hs
 have hm : ∀ {a}, (a = p ∨ a = q ∨ a = s) → a ∈ r ∧ rmZ a v = 0 := fun h => by
  rcases h with rfl | rfl | rfl
  ·exact ⟨hp, e1⟩
  ·exact ⟨hq, e2⟩
  ·exact ⟨hs, e3⟩
 have hw' : mw a c d ≠ 0 := by
  have k : mw a c d = mw p q s ∨ mw a c d = -mw p q s := by
   rcases ha with rfl | rfl | rfl <;> rcases hc with rfl | rfl | rfl <;> rcases hd with rfl | rfl | rfl <;> first | exact absurd rfl m1 | exact absurd rfl m2 | exact absurd rfl m3 | exact .inl rfl | (left; simp only [mw, dot, o4]; grind; done) | (right; simp only [mw, dot, o4]; grind; done)
  rcases k with k | k <;> omega
 have h := Zc1 hw'
 obtain ⟨w1, w2, w3, w4, w5⟩ := tc6 (hb a (hm ha).1) (hb c (hm hc).1) (hb d (hm hd).1) h
 obtain ⟨f1, f2, f3⟩ := Qc5 h
 have he := jd3 hw' f1 f2 f3 (hm ha).2 (hm hc).2 (hm hd).2
 exact ⟨h, (zc8 hb ⟨w1, w5, w2, w3, w4⟩).2 (he.inr w1 hv.toInr), he⟩
theorem Qc9 (c : List Pln) : Bdd (c ++ ws) := fun d hd => by
 have k : ∀ {n : V3} {m : Int}, (⟨n, m⟩ : Pln) ∈ ws → 0 < dot n d → ∃ p ∈ c ++ ws, 0 < dot p.n d := fun h h' => ⟨_, List.mem_append_right _ h, h'⟩
 by_cases h1 : 0 < d.x
 ·exact k (n := ⟨1, 0, 0⟩) (m := 24) (by simp [ws]) (by unfold dot; simp; omega)
 by_cases h2 : d.x < 0
 ·exact k (n := ⟨-1, 0, 0⟩) (m := 24) (by simp [ws]) (by unfold dot; simp; omega)
 by_cases h3 : 0 < d.y
 ·exact k (n := ⟨0, 1, 0⟩) (m := 24) (by simp [ws]) (by unfold dot; simp; omega)
 by_cases h4 : d.y < 0
 ·exact k (n := ⟨0, -1, 0⟩) (m := 24) (by simp [ws]) (by unfold dot; simp; omega)
 by_cases h5 : 0 < d.z
 ·exact k (n := ⟨0, 0, 1⟩) (m := 24) (by simp [ws]) (by unfold dot; simp; omega)
 by_cases h6 : d.z < 0
 ·exact k (n := ⟨0, 0, -1⟩) (m := 24) (by simp [ws]) (by unfold dot; simp; omega)
 exact absurd (V3.ext' (by show d.x = 0; omega) (by show d.y = 0; omega) (by show d.z = 0; omega)) hd
theorem zc9 {r : List Pln} (hb : Bds r) {p : Pln} (hp : Bd p) : pos (cor r) p = true ↔ ∃ v, Cn r v ∧ 0 < rmZ p v := by
 unfold pos
 rw [List.any_eq_true]
 constructor
 ·rintro ⟨x, hx, h⟩
  rw [uc5 hp (fb2 hb x hx)] at h
  exact ⟨x, Qc7 hb x hx, by simpa using h⟩
 ·rintro ⟨v, hv, h⟩
  obtain ⟨x, hx, he⟩ := Qc8 hb hv
  refine ⟨x, hx, ?_⟩
  rw [uc5 hp (fb2 hb x hx)]
  have h1 := he.rm p
  have h2 := Int.mul_pos h (fb2 hb x hx).w1
  have : 0 < rmZ p x := Int.lt_of_mul_lt_mul_right (by rw [Int.zero_mul]; omega : 0 * v.pw < rmZ p x * v.pw) (Int.le_of_lt hv.w)
  simpa using this
theorem Wb0 {r : List Pln} (hb : Bds r) (hd : Bdd r) (h0 : r ≠ []) : ball r = true ↔ Zc0 r := by
 rw [Qc3 hd h0]
 unfold ball
 rw [List.all_eq_true]
 exact ⟨fun h p hp => (zc9 hb (hb p hp)).1 (h p hp), fun h p hp => (zc9 hb (hb p hp)).2 (h p hp)⟩
end Go.Ev.Ce
namespace Go.Ev.Ce
def dv (z v : Pt) : V3 := ⟨v.px * z.pw - z.px * v.pw, v.py * z.pw - z.py * v.pw, v.pz * z.pw - z.pz * v.pw⟩
end Go.Ev.Ce
namespace Go.Ev.Ce
open Go Go.Ev Go.Ev.L Go.Proofs
def td8 (p : Pln) (v : V3) : Int := if okp p && inV v then (if dot p.n v - p.b < 0 then -1 else if dot p.n v - p.b > 0 then 1 else 0) else 0
def pd3 (v : V3) : Pt := ⟨v.x, v.y, v.z, 1⟩
structure Thr (a b c : V3) (p : Pln) : Prop where
 ok : okp p = true
 k : ∃ g : Int, 0 < g ∧ g * p.n.x = (o4 (sub b a) (sub c a)).x ∧ g * p.n.y = (o4 (sub b a) (sub c a)).y ∧ g * p.n.z = (o4 (sub b a) (sub c a)).z
 o : p.b = dot p.n a
def hold (p : Pln) (l : List V3) : Bool := !l.any fun v => decide (td8 p v > 0)
end Go.Ev.Ce
namespace Go.Ev.Ce
open Go Go.Ev Go.Ev.L Go.Proofs
noncomputable def pd4 (l : List V3) (a c : Nat) (out : List Pln) (k : Nat) : List Pln :=
  if (uc0 (gL tV l a) (gL tV l c) (gL tV l k)).2 then
    (if hold (Pc7 (uc0 (gL tV l a) (gL tV l c) (gL tV l k)).1) l then Yc9 (if hold (uc0 (gL tV l a) (gL tV l c) (gL tV l k)).1 l then Yc9 out (uc0 (gL tV l a) (gL tV l c) (gL tV l k)).1 else out) (Pc7 (uc0 (gL tV l a) (gL tV l c) (gL tV l k)).1)
     else (if hold (uc0 (gL tV l a) (gL tV l c) (gL tV l k)).1 l then Yc9 out (uc0 (gL tV l a) (gL tV l c) (gL tV l k)).1 else out))
  else out
noncomputable def F2 (l : List V3) (a : Nat) (out : List Pln) (c : Nat) : List Pln := (List.range c).foldl (pd4 l a c) out
noncomputable def F1 (l : List V3) (out : List Pln) (a : Nat) : List Pln := (List.range a).foldl (F2 l a) out
noncomputable def F0 (l : List V3) : List Pln := (List.range l.length).foldl (F1 l) []
end Go.Ev.Ce
namespace Go.Ev.Ce
open Go Go.Ev Go.Ev.L Go.Proofs
theorem Eb5 {c : List Pln} {x : Pt} (hb : ∀ p ∈ c, Bd p) (hx : Okx x) : inn c x = true ↔ ∀ p ∈ c, 0 ≤ rmZ p x := by
 unfold inn
 rw [List.all_eq_true]
 refine ⟨fun h p hp => ?_, fun h p hp => ?_⟩
 ·have := h p hp
  rw [uc5 (hb p hp) hx] at this
  simpa using this
 ·rw [uc5 (hb p hp) hx]
  simpa using h p hp
end Go.Ev.Ce
namespace Go.Ev.Ce
open Go Go.Ev Go.Ev.L Go.Proofs
structure ud2 (l : List V3) : Prop where
 h : ∃ a c k v, a ∈ l ∧ c ∈ l ∧ k ∈ l ∧ v ∈ l ∧ dot (o4 (sub c a) (sub k a)) (sub v a) ≠ 0
structure Fct (l : List V3) (p : Pln) : Prop where
 ok : okp p = true
 hd : hold p l = true
end Go.Ev.Ce
namespace Go.Ev.Ce
open Go Go.Ev Go.Ev.L Go.Proofs
theorem Wb1 : g3 ⟨1, 0, 0⟩ = 1 ∧ g3 ⟨-1, 0, 0⟩ = 1 ∧ g3 ⟨0, 1, 0⟩ = 1 ∧ g3 ⟨0, -1, 0⟩ = 1 ∧ g3 ⟨0, 0, 1⟩ = 1 ∧ g3 ⟨0, 0, -1⟩ = 1 := by decide
structure Rb2 (c : List Pln) : Prop where
 l : c.length ≤ 47
 v : ∀ p ∈ c, okp p = true
 f : Zc0 (c ++ ws)
theorem Rb2.chk {c : List Pln} (h : Rb2 c) : (chk c == 0) = true := by
 rw [beq_iff_eq, rb5]
 exact ⟨by have := h.l; omega, h.v⟩
theorem Rb2.bds {c : List Pln} (h : Rb2 c) : Bds (c ++ ws) := (fb1 h.chk).1
theorem Rb2.ful {c : List Pln} (h : Rb2 c) : ful c = true := by
 unfold Ce.ful
 rw [h.chk, (Wb0 h.bds (Qc9 c) (by simp [ws])).2 h.f]
 rfl
theorem Rc0 {lo hi : V3} (h1 : Sm 20 lo.x ∧ Sm 20 lo.y ∧ Sm 20 lo.z) (h2 : Sm 20 hi.x ∧ Sm 20 hi.y ∧ Sm 20 hi.z) (h3 : lo.x < hi.x ∧ lo.y < hi.y ∧ lo.z < hi.z) : Rb2 (tc8 lo hi) := by
 obtain ⟨⟨a1, a2⟩, ⟨a3, a4⟩, a5, a6⟩ := h1
 obtain ⟨⟨b1, b2⟩, ⟨b3, b4⟩, b5, b6⟩ := h2
 obtain ⟨c1, c2, c3⟩ := h3
 have w : ∀ {x : Int}, -20 ≤ x → x ≤ 20 → W (0 - x) = -x := fun h h' => by rw [Ca1 (by omega) (by omega)]; omega
 have e : tc8 lo hi = [⟨⟨1, 0, 0⟩, hi.x⟩, ⟨⟨-1, 0, 0⟩, -lo.x⟩, ⟨⟨0, 1, 0⟩, hi.y⟩, ⟨⟨0, -1, 0⟩, -lo.y⟩, ⟨⟨0, 0, 1⟩, hi.z⟩, ⟨⟨0, 0, -1⟩, -lo.z⟩] := by
  unfold tc8
  rw [w a1 a2, w a3 a4, w a5 a6]
 rw [e]
 refine ⟨by simp, fun p hp => ?_, ⟨⟨lo.x + hi.x, lo.y + hi.y, lo.z + hi.z, 2⟩, by show (0 : Int) < 2; omega, fun p hp => ?_⟩⟩
 ·simp only [List.mem_cons, List.not_mem_nil, or_false] at hp
  unfold okp
  simp only [List.all_cons, List.all_nil, Bool.and_true, Bool.and_eq_true, fb0, beq_iff_eq, Sm]
  rcases hp with rfl | rfl | rfl | rfl | rfl | rfl <;> exact ⟨by simp, by first | exact Wb1.1 | exact Wb1.2.1 | exact Wb1.2.2.1 | exact Wb1.2.2.2.1 | exact Wb1.2.2.2.2.1 | exact Wb1.2.2.2.2.2, by simp only; omega⟩
 ·simp only [ws, List.cons_append, List.nil_append, List.mem_cons, List.not_mem_nil, or_false] at hp
  rcases hp with rfl | rfl | rfl | rfl | rfl | rfl | rfl | rfl | rfl | rfl | rfl | rfl <;> simp only [rmZ] <;> omega
theorem Rb2.pts {c : List Pln} (h : Rb2 c) : pts c = cor (c ++ ws) := by unfold Ce.pts; rw [if_pos h.chk]
end Go.Ev.Ce
namespace Go.Ev
open Go Go.ChangeShapes Go.RowKit
structure Nb4 (w w' : World) : Prop where
 os : w'.os = w.os
 output : w'.output = w.output
 size : w.heap.size ≤ w'.heap.size
 block : ∀ k, k < w.heap.size → w'.heap[k]? = w.heap[k]?
theorem Nb4.kept {w w' : World} (h : Nb4 w w') (may : MemPlace → Prop) : w.keptBut w' may := by
 refine ⟨h.os, h.output, fun i hi => ?_⟩
 rw [h.block i hi]
 cases w.heap[i]? with
 | none => rfl
 | some o => cases o <;> first | exact ⟨rfl, rfl, rfl, fun _ _ => rfl⟩ | exact .inr ⟨rfl, rfl⟩ | rfl
theorem Nb4.frozen {w w' : World} (h : Nb4 w w') (b off : Nat) (hb : b < w.heap.size) : w'.frozen? ⟨b, off, none⟩ = w.frozen? ⟨b, off, none⟩ := by
 simp only [World.frozen?, h.block b hb]
theorem Nb4.cell {w w' : World} (h : Nb4 w w') (b off : Nat) (hb : b < w.heap.size) : w'.cell? ⟨b, off, none⟩ = w.cell? ⟨b, off, none⟩ := by
 simp only [World.cell?, h.block b hb]
theorem Nb4.same {w w' : World} (h : Nb4 w w') (p : MemPlace) (hp : p.block < w.heap.size) : w.sameAt w' p := by
 cases p with
 | cell b off => exact h.cell b off hp
 | map b => exact h.block b hp
theorem Nb5 {α β : Type} {f : α → Option β} : ∀ {l : List α} {r : List β}, l.mapM f = some r → r.length = l.length ∧ ∀ (j : Nat) y, r[j]? = some y → ∃ x, l[j]? = some x ∧ f x = some y
 | [], r, h => by
  have : r = [] := by simpa using h.symm
  subst this; simp
 | x :: l, r, h => by
  rw [List.mapM_cons] at h
  obtain ⟨y, h1, h2⟩ := Option.bind_eq_some_iff.1 h
  obtain ⟨r', h3, h4⟩ := Option.bind_eq_some_iff.1 h2
  have : r = y :: r' := by simpa using h4.symm
  subst this
  obtain ⟨g1, g2⟩ := Nb5 h3
  refine ⟨by simp [g1], fun j z hz => ?_⟩
  cases j with
  | zero => simp at hz; subst hz; exact ⟨x, rfl, h1⟩
  | succ j => simpa using g2 j z (by simpa using hz)
section
variable {D : Type} {enc : TypeId × Value → D} {P : Program}
theorem jb3 {T : TypeId → Prop} (K : Kids P T) (hsz : ∀ {t e : TypeId}, T t → P.underlying t = some (.slice e) → 0 < P.cellsOf e) {w w' : World} {sp : Nat → Bool} (hs : Nb4 w w') :
  ∀ {ts : List TypeId} {vs : List Value} {ds : List (DataW D)} {ps : List MemPlace}, (∀ t ∈ ts, T t) → DataW.TrodAll enc P w 0 (fun _ => true) true ts vs ds ps → (∀ p ∈ ps, p.block < w.heap.size) → (∀ p ∈ ps, sp p.block = true) → DataW.TrodAll enc P w' 0 sp true ts vs ds ps
 | [], [], [], _, _, h, _, _ => h
 | t :: ts, v :: vs, d :: ds, ps, ht, h, hlt, hsp => by
  obtain ⟨p, q, ⟨fuel, h1⟩, h2, rfl⟩ := h
  refine ⟨p, q, ⟨fuel, ?_⟩, jb3 K hsz hs (fun t h => ht t (by simp [h])) h2 (fun x hx => hlt x (by simp [hx])) (fun x hx => hsp x (by simp [hx])), rfl⟩
  exact DataW.trod_stays K hsz (fun h => by cases h) (ht t (by simp)) h1 (fun x hx => hs.same x (hlt x (by simp at hx ⊢; exact .inl hx))) (fun x hx => hsp x (by simp at hx ⊢; exact .inl hx))
 | [], _ :: _, _, _, _, h, _, _ => h.elim
 | [], [], _ :: _, _, _, h, _, _ => h.elim
 | _ :: _, [], _, _, _, h, _, _ => h.elim
 | _ :: _, _ :: _, [], _, _, h, _, _ => h.elim
theorem Rc1 {T : TypeId → Prop} (K : Kids P T) (hsz : ∀ {t e : TypeId}, T t → P.underlying t = some (.slice e) → 0 < P.cellsOf e) {f : Func} {s : ChangeSpec} {apart fresh handsOn again : Bool} {W W' : World} {args : Array Value} {ds gs : List (DataW D)} {before : List MemPlace} {tb : TypeId}
  (hT : ∀ t ∈ f.params.toList, T t) (hW : DataW.Whole enc P f.params.toList s.vars apart W args.toList ds gs before) (hv : s.vars = []) (hr : f.resultTypes = #[tb]) (hb : P.underlying tb = some .bool)
  (h1 : (s.fn D ds).results = [.lit (.bool true)]) (h2 : (s.fn D ds).args = ds) (h3 : (s.fn D ds).vars = []) (hs : Nb4 W W') :
  s.post enc P f apart fresh handsOn again W args (.bool true) W' := by
 have hlt := hW.lt
 obtain ⟨pa, pv, hA, hV, hps, hz, hn⟩ := id hW
 rw [hv] at hV
 have hpv : gs = [] ∧ pv = [] := by
  cases gs with
  | nil => exact ⟨rfl, hV⟩
  | cons => exact hV.elim
 obtain ⟨rfl, rfl⟩ := hpv
 rw [← List.append_nil ds] at h1 h3
 have h2 : (s.fn D (ds ++ [])).args = ds := by rw [List.append_nil]; exact h2
 have hpa : before = pa := by rw [hps]; simp
 subst hpa
 have hagain : ∀ sp : Nat → Bool, (∀ p ∈ before, sp p.block = true) → DataW.TrodAll enc P W' 0 sp true f.params.toList args.toList ds before := fun sp h => jb3 K hsz hs hT hA hlt h
 have hres : ∀ (b : Nat) (sp : Nat → Bool) (hd : Bool), DataW.TrodAll enc P W' b sp hd f.resultTypes.toList ((Value.bool true).resultList f.resultTypes.size) [.lit (.bool true)] [] := fun b sp hd => by
  rw [hr]
  exact ⟨[], [], ⟨1, by simp [DataW.trod, hb, Value.cells, Value.resultList]⟩, rfl, rfl⟩
 have hvars : ∀ sp : Nat → Bool, DataW.TrodVars enc P W' sp s.vars ([] : List (DataW D)) [] := fun sp => by rw [hv]; exact rfl
 have hok : ∀ (j : Nat) (t : TypeId) (r : Value), f.resultTypes[j]? = some t → ((Value.bool true).resultList f.resultTypes.size)[j]? = some r → Value.okWide P W' .any 0 t r := by
  rw [hr]
  intro j t r h4 h5
  cases j with
  | zero =>
   simp at h4
   subst h4
   have : r = .bool true := by simpa [Value.resultList] using h5.symm
   subst this
   exact okWide_bool_mk hb _
  | succ j => simp at h4
 have hag : DataW.TrodAll enc P W' 0 (fun _ => true) true (f.resultTypes.toList ++ f.params.toList) ((Value.bool true).resultList f.resultTypes.size ++ args.toList) (.lit (.bool true) :: ds) before := by
  have := hagain (fun _ => true) (fun _ _ => rfl)
  rw [hr]
  exact ⟨[], before, ⟨1, by simp [DataW.trod, hb, Value.cells, Value.resultList]⟩, this, rfl⟩
 refine ⟨ds, [], before, [], before, [], hW, ?_, ?_, ?_, hs.kept _, fun _ => ?_⟩
 ·rw [h1]; exact hres _ _ _
 ·rw [h2]; exact hagain _ fun p hp => by simpa using hlt p hp
 ·rw [h3]; exact hvars _
 ·refine ⟨hok, .lit (.bool true) :: ds, [], before, ⟨before, [], hag, hvars _, by simp, ?_, ?_⟩, ?_⟩
  ·intro b off hp
   rw [hs.frozen b off (hlt _ hp)]
   exact hz b off (by simpa using hp)
  ·intro ha; simpa using hn ha
  ·intro p hp _; exact hp
variable {w : World} {base : Nat} {spare : Nat → Bool} {held : Bool}
def Fc7 (w : World) : Fz := fun b o => (w.cell? ⟨b, o, none⟩).isSome
theorem jd4 {fuel : Nat} {t : TypeId} {k : IntKind} {cs : List Value} {x : DataW D × List MemPlace} (ht : P.underlying t = some (.int k)) (h : DataW.trod enc P w base spare held fuel t cs = some x) :
  ∃ n, cs = [.int k n] ∧ (Lit.int k n).wf = true ∧ x.1 = .lit (.int k n) := by
 cases fuel with
 | zero => cases h
 | succ fuel =>
  match cs, h with
  | [], h => simp [DataW.trod, ht] at h
  | [v], h =>
   cases v with
   | int k' n =>
    simp only [DataW.trod, ht] at h
    split at h
    ·rename_i hk
     obtain ⟨rfl, hw⟩ := hk
     injection h with h; subst h
     exact ⟨n, rfl, hw, rfl⟩
    ·cases h
   | _ => simp [DataW.trod, ht] at h
  | a :: b :: r, h => simp [DataW.trod, ht] at h
theorem Zc2 {fuel : Nat} {t : TypeId} {cs : List Value} {x : DataW D × List MemPlace} (ht : P.underlying t = some .bool) (h : DataW.trod enc P w base spare held fuel t cs = some x) :
  ∃ n, cs = [.bool n] ∧ x.1 = .lit (.bool n) := by
 cases fuel with
 | zero => cases h
 | succ fuel =>
  match cs, h with
  | [], h => simp [DataW.trod, ht] at h
  | [v], h =>
   cases v with
   | bool n =>
    simp only [DataW.trod, ht] at h
    injection h with h; subst h
    exact ⟨n, rfl, rfl⟩
   | _ => simp [DataW.trod, ht] at h
  | a :: b :: r, h => simp [DataW.trod, ht] at h
theorem Rc2 {fuel : Nat} {t e : TypeId} {n : Nat} {cs : List Value} {x : DataW D × List MemPlace} (ht : P.underlying t = some (.array n e)) (h : DataW.trod enc P w base spare held fuel t cs = some x) :
  cs.length = P.cellsOf t ∧ ∃ (fuel' : Nat) (xs : List (DataW D × List MemPlace)), xs.length = n ∧ x.1 = .agg (xs.map (·.1)) ∧ ∀ (j : Nat) y, xs[j]? = some y → DataW.trod enc P w base spare held fuel' e ((cs.drop (j * P.cellsOf e)).take (P.cellsOf e)) = some y := by
 cases fuel with
 | zero => cases h
 | succ fuel =>
  unfold DataW.trod at h
  rw [ht] at h
  simp only at h
  split at h
  ·rename_i hl
   obtain ⟨xs, h1, h2⟩ := Option.map_eq_some_iff.1 h
   have hx := Nb5 h1
   exact ⟨hl, fuel, xs, by simpa using hx.1, by rw [← h2], fun j y hy => by
    obtain ⟨a, ha, hb⟩ := hx.2 j y hy
    have : j < n := by
     have := (List.getElem?_eq_some_iff.1 hy).1
     rw [hx.1] at this; simpa using this
    rw [List.getElem?_range this] at ha
    injection ha with ha
    subst ha
    exact hb⟩
  ·cases h
theorem Fc8 {fuel : Nat} {t : TypeId} {fs : Array Field} {cs : List Value} {x : DataW D × List MemPlace} (ht : P.underlying t = some (.struct fs)) (h : DataW.trod enc P w base spare held fuel t cs = some x) :
  cs.length = P.cellsOf t ∧ ∃ (fuel' : Nat) (xs : List (DataW D × List MemPlace)), xs.length = fs.size ∧ x.1 = .agg (xs.map (·.1)) ∧ ∀ (j : Nat) f, fs[j]? = some f → ∃ y, xs[j]? = some y ∧ DataW.trod enc P w base spare held fuel' f.type ((cs.drop f.offset).take (P.cellsOf f.type)) = some y := by
 cases fuel with
 | zero => cases h
 | succ fuel =>
  unfold DataW.trod at h
  rw [ht] at h
  simp only at h
  split at h
  ·rename_i hl
   obtain ⟨xs, h1, h2⟩ := Option.map_eq_some_iff.1 h
   have hx := Nb5 h1
   refine ⟨hl, fuel, xs, by simpa using hx.1, by rw [← h2], fun j f hf => ?_⟩
   have hj : j < xs.length := by
    rw [hx.1]; simpa using (Array.getElem?_eq_some_iff.1 hf).1
   obtain ⟨a, ha, hb⟩ := hx.2 j _ (List.getElem?_eq_getElem hj)
   have : a = f := by
    have : fs.toList[j]? = some f := by simpa using hf
    exact Option.some.inj (ha.symm.trans this)
   subst this
   exact ⟨_, List.getElem?_eq_getElem hj, hb⟩
  ·cases h
theorem Ac0 : ∀ (d : Nat) (t : TypeId) (l : List (Nat × CK)), Q5 P d t = some l → ∀ (fuel : Nat) (cs : List Value) (x : DataW D × List MemPlace), DataW.trod enc P w base spare held fuel t cs = some x → ∀ p ∈ l, ja1 cs.toArray p
 | 0, _, _, h, _, _, _, _ => by cases h
 | d + 1, t, l, h, fuel, cs, x, hx => by
  have hpart : ∀ {off n : Nat} {e : TypeId} {l' : List (Nat × CK)} {fuel' : Nat} {y : DataW D × List MemPlace}, Xa6 off n (Q5 P d e) = some l' → DataW.trod enc P w base spare held fuel' e ((cs.drop off).take n) = some y → ∀ p ∈ l', ja1 cs.toArray p := fun {off n e l' fuel' y} h1 h2 p hp => by
   obtain ⟨l2, g1, g2, rfl⟩ := oa1 h1
   obtain ⟨q, hq, rfl⟩ := List.mem_map.1 hp
   have := Ac0 d e l2 g1 fuel' _ y h2 q hq
   have hlt := g2 q hq
   unfold ja1 at this ⊢
   simp only [List.getElem?_toArray, List.getElem?_take, hlt, if_true, List.getElem?_drop] at this ⊢
   exact this
  have hcat : ∀ {α : Type} (f : α → Option (List (Nat × CK))) (xs : List α) (l : List (Nat × CK)), Y7 (xs.map f) = some l → ∀ p ∈ l, ∃ a ∈ xs, ∃ l', f a = some l' ∧ p ∈ l' := fun {α} f xs => by
   induction xs with
   | nil => intro l h; simp only [List.map_nil, Y7] at h; injection h with h; subst h; simp
   | cons a xs ih =>
    intro l h p hp
    simp only [List.map_cons, Y7] at h
    cases h1 : f a with
    | none => simp [h1] at h
    | some l1 =>
    cases h2 : Y7 (xs.map f) with
    | none => simp [h1, h2] at h
    | some l2 =>
    simp only [h1, h2] at h
    injection h with h; subst h
    rcases List.mem_append.1 hp with hp | hp
    ·exact ⟨a, by simp, l1, h1, hp⟩
    ·obtain ⟨b, hb, r⟩ := ih l2 h2 p hp
     exact ⟨b, by simp [hb], r⟩
  unfold Q5 at h
  cases hu : P.underlying t with
  | none => simp [hu] at h
  | some u =>
  cases u with
  | int k =>
   simp only [hu] at h; injection h with h; subst h
   obtain ⟨n, rfl, _, _⟩ := jd4 hu hx
   intro p hp; simp at hp; subst hp; exact ⟨n, rfl⟩
  | bool =>
   simp only [hu] at h; injection h with h; subst h
   obtain ⟨n, rfl, _⟩ := Zc2 hu hx
   intro p hp; simp at hp; subst hp; exact ⟨n, rfl⟩
  | struct fs =>
   simp only [hu] at h
   split at h
   ·cases h
   obtain ⟨_, fuel', xs, _, _, hxs⟩ := Fc8 hu hx
   intro p hp
   obtain ⟨f, hf, l', h1, h2⟩ := hcat _ _ _ h p hp
   split at h1
   ·cases h1
   obtain ⟨j, hj⟩ := List.getElem?_of_mem hf
   obtain ⟨y, _, hy⟩ := hxs j f (by simpa using hj)
   have hc : P.cellsOf f.type = szT P f.type := by
    unfold Program.cellsOf szT
    cases P.info? f.type <;> rfl
   rw [hc] at hy
   exact hpart h1 hy p h2
  | array n e =>
   simp only [hu] at h
   split at h
   case isFalse => cases h
   obtain ⟨_, fuel', xs, hn, _, hxs⟩ := Rc2 hu hx
   intro p hp
   obtain ⟨j, hj, l', h1, h2⟩ := hcat _ _ _ h p hp
   have hj' : j < xs.length := by rw [hn]; simpa using hj
   have hy := hxs j _ (List.getElem?_eq_getElem hj')
   have hc : P.cellsOf e = szT P e := by
    unfold Program.cellsOf szT
    cases P.info? e <;> rfl
   rw [hc] at hy
   exact hpart h1 hy p h2
  | _ => simp [hu] at h
def Ua5 (k : IntKind) (es : Nat) (g : Nat → Int) : List a7 := (List.range es).map fun c => .v (.int k (g c))
def na6 (k : IntKind) (es : Nat) : List (Nat × CK) := (List.range es).map fun c => (c, .int k)
theorem Zc3 {d : Nat} {t : TypeId} {k : IntKind} {es : Nat} (hf : Q5 P d t = some (na6 k es)) {fuel : Nat} {cs : List Value} {x : DataW D × List MemPlace} (hx : DataW.trod enc P w base spare held fuel t cs = some x) (hl : cs.length = es) :
  ∃ g : Nat → Int, ∀ c, c < es → cs[c]? = some (.int k (g c)) := by
 have h := Ac0 d t _ hf fuel cs x hx
 have h' : ∀ c, ∃ n : Int, c < es → cs[c]? = some (.int k n) := fun c => by
  by_cases hc : c < es
  ·have := h (c, .int k) (List.mem_map.2 ⟨c, by simpa using hc, rfl⟩)
   obtain ⟨n, hn⟩ := this
   exact ⟨n, fun _ => by simpa using hn⟩
  ·exact ⟨0, fun h => absurd h hc⟩
 exact ⟨fun c => Classical.choose (h' c), fun c hc => Classical.choose_spec (h' c) hc⟩
theorem uc6 {k : IntKind} {es : Nat} {g : Nat → Int} {c : Nat} {x : a7} (h : (Ua5 k es g)[c]? = some x) : c < es ∧ x = .v (.int k (g c)) := by
 unfold Ua5 at h
 obtain ⟨h1, h2⟩ := pa4 h
 exact ⟨h1, h2.symm⟩
theorem Fc9 (w : World) : r8 (fun k => w.heap.size ≤ k) (fun _ => ⟨0, 0, 0⟩) [] (Fc7 w) w :=
 ⟨fun id b h => by simp at h, fun id id' b b' h => by simp at h, fun _ _ h => h, fun _ h => h⟩
theorem Gc0 {G : Nat → List Value} {f : FuncId} {S : Sum} (hS : j6 P G f S) {aargs : List a7} {args : List Value} (hrun : ∃ out, (S aargs []).run = some (b true, out)) (hl : aargs.length = args.length)
  (ha : ∀ (i : Nat) x x', aargs[i]? = some x → args[i]? = some x' → R3 (fun _ => ⟨0, 0, 0⟩) [] (Fc7 w) w x x') (hG : ∀ g (c : Nat) x, (G g)[c]? = some x → x.oneCell' = true ∧ w.cell? ⟨g, c, none⟩ = some x) :
  Calls P f args.toArray w fun e w' => e = .returned (.bool true) ∧ Nb4 w w' := by
 obtain ⟨out, hrun⟩ := hrun
 obtain ⟨_, hc⟩ := hS aargs [] (b true) out hrun (fun k => w.heap.size ≤ k) (fun _ => ⟨0, 0, 0⟩) (Fc7 w) w args (Fc9 w) hl (fun i x x' h1 h2 => .val (ha i x x' h1 h2)) (fun g c x hx => by
  obtain ⟨h1, h2⟩ := hG g c x hx
  exact ⟨h1, by unfold Fc7; rw [h2]; rfl, h2⟩)
 refine hc.mono fun e w' ⟨r', he, ρ', F', hA, hH, hW⟩ => ?_
 have := Q6 hW
 subst this
 exact ⟨he, hA.ext.os, hA.ext.output, hA.ext.size, fun k hk => hA.ext.block k hk (by omega)⟩
theorem Zc4 {ρ : Rho} {H : List a8} {F : Fz} {t : TypeId} {k : IntKind} {es d : Nat} {v : Value} {dd : DataW D} {pp : List MemPlace} {bs : Nat} {r : Reach} (hag : agT P t = true) (hf : Q5 P d t = some (na6 k es)) (hes : P.cellsOf t = es)
  (hok : Value.okWide P w r bs t v) (h : DataW.Trod enc P w base spare held t v dd pp) : ∃ g : Nat → Int, R3 ρ H F w (.agg (Ua5 k es g)) v := by
 have hv : ∃ cs : Array Value, v = .agg cs ∧ cs.size = P.cellsOf t := by
  unfold agT at hag
  unfold Value.okWide at hok
  split at hag
  ·rename_i fs hu; rw [hu] at hok; obtain ⟨cs, h1, h2, _⟩ := hok; exact ⟨cs, h1, h2⟩
  ·rename_i n e hu; rw [hu] at hok; obtain ⟨cs, h1, h2, _⟩ := hok; exact ⟨cs, h1, h2⟩
  ·cases hag
 obtain ⟨cs, rfl, hsz⟩ := hv
 obtain ⟨fuel, hx⟩ := h
 have hx : DataW.trod enc P w base spare held fuel t cs.toList = some (dd, pp) := hx
 obtain ⟨g, hg⟩ := Zc3 hf hx (by simpa [hes] using hsz)
 refine ⟨g, .agg _ _ (by simp [Ua5, hsz, hes]) fun c x x' h1 h2 => ?_⟩
 obtain ⟨hc, rfl⟩ := uc6 h1
 have := hg c hc
 have h3 : some x' = some (.int k (g c)) := by rw [← h2]; simpa using this
 injection h3 with h3
 subst h3
 exact .v _
end
end Go.Ev
namespace Go.Ev.L
open Go Go.Ev
def Rdg {α : Type} (c : Cod α) (x : a7) (a : α) : Prop := c.dec x = some a ∧ c.grd x = true
section
variable {α β γ δ ε : Type} {c : Cod α} {d : Cod β} {e : Cod γ} {f : Cod δ} {c5 : Cod ε} {x y z w v : a7} {a : α} {b' : β} {g : γ} {j : δ} {m : ε} {r : a7 × List a8}
theorem td9 {k : α → β → DT (a7 × List a8)} (h1 : Rdg c x a) (h2 : Rdg d y b') (h : (k a b').run = some r) : (va9 c d k [x, y] []).run = some r := by
 unfold va9
 simp only [h1.1, h1.2, h2.1, h2.2]
 exact h
end
theorem jd5 {g p : Bool} (hg : g = true) (hp : p = true) : (DT.guard g (.ret ((one r1B).enc p, ([] : List a8)))).run = some (b true, ([] : List a8)) := by subst hg; subst hp; rfl
end Go.Ev.L
namespace Go.Ev.Ce
open Go Go.Ev Go.Ev.L Go.Proofs
structure B3 where
 b0 : Int
 b1 : Int
 b2 : Int
end Go.Ev.Ce
section
namespace Go.Ev.Ce
open Go Go.Ev Go.Ev.L Go.Proofs
set_option maxRecDepth 100000
structure oc0 where
 ud1 : List (List Int)
 bs5 : Bool
 w7 : Int
 o7 : Int
 w8 : Int
structure oc1 where
 ph : Nat
 is8 : Int
 ns7 : Nat
 eh1 : List (List a7)
end Go.Ev.Ce
end
namespace Go.Ev.Ce
open Go Go.Ev Go.Ev.L Go.Proofs
def Neg (v : V3) (q : Pln) : Prop := okp q = true ∧ dot q.n v < q.b
structure pd5 (v : V3) : Prop where
 x : Sm 23 v.x
 y : Sm 23 v.y
 z : Sm 23 v.z
theorem pd5.inV {v : V3} (h : pd5 v) : inV v = true := (bc8 v).2 ⟨h.x.mono (by omega), h.y.mono (by omega), h.z.mono (by omega)⟩
structure Cel (v : V3) (c : List Pln) : Prop where
 l : c.length ≤ 6
 n : ∀ q ∈ c, Neg v q
theorem Cel.add {v : V3} {c : List Pln} {q : Pln} (h : Cel v c) (hl : c.length < 6) (hq : Neg v q) : Cel v (c ++ [q]) := by
 refine ⟨by rw [List.length_append, List.length_singleton]; omega, fun x hx => ?_⟩
 rcases List.mem_append.1 hx with hx | hx
 ·exact h.n x hx
 ·rw [List.mem_singleton.1 hx]; exact hq
def Ins (v : V3) (l : List Pln) : Prop := ∀ q ∈ l, 0 < rmZ q (pd3 v)
theorem Ins.app {v : V3} {l r : List Pln} (h : Ins v l) (h' : Ins v r) : Ins v (l ++ r) := fun q hq => (List.mem_append.1 hq).elim (h q) (h' q)
theorem Ins.ball {v : V3} {l : List Pln} (h : Ins v l) : Zc0 l := ⟨pd3 v, Int.one_pos, h⟩
theorem Cel.chk {v : V3} {c : List Pln} (h : Cel v c) : (chk c == 0) = true := by
 rw [beq_iff_eq, rb5]
 exact ⟨by have := h.l; omega, fun q hq => (h.n q hq).1⟩
end Go.Ev.Ce
namespace Go.Ev.Ce
open Go Go.Ev Go.Ev.L Go.Proofs
theorem oc2 {r : List Pln} {p q : Pln} {out : List Pt} {s : Pln} (h : out.Nodup) : (oa6 r p q out s).Nodup := by
 unfold oa6
 split
 ·rename_i hc
  simp only [Bool.and_eq_true, Bool.not_eq_true'] at hc
  rw [List.nodup_append]
  refine ⟨h, by simp, fun a ha b hb e => ?_⟩
  rw [List.mem_singleton] at hb
  have h1 := hc.2.1
  unfold Bb9 at h1
  have h2 := List.any_eq_false.1 h1 a ha
  rw [e, hb] at h2
  exact h2 (by simp [eqX])
 ·exact h
theorem Nb6 {r : List Pln} {p q : Pln} : ∀ {l : List Pln} {out : List Pt}, out.Nodup → (Ta4 r p q l out).Nodup
 | [], _, h => h
 | _ :: l, _, h => Nb6 (l := l) (oc2 h)
theorem Nb7 {r : List Pln} {p : Pln} : ∀ {l : List Pln} {out : List Pt}, out.Nodup → (Ia9 r p l out).Nodup
 | [], _, h => h
 | _ :: l, _, h => Nb7 (l := l) (Nb6 h)
theorem Nb8 {r : List Pln} : ∀ {l : List Pln} {out : List Pt}, out.Nodup → (xb3 r l out).Nodup
 | [], _, h => h
 | _ :: l, _, h => Nb8 (l := l) (Nb7 h)
theorem Gc1 (r : List Pln) : (cor r).Nodup := Nb8 List.nodup_nil
def axs : List V3 := [⟨1, 0, 0⟩, ⟨-1, 0, 0⟩, ⟨0, 1, 0⟩, ⟨0, -1, 0⟩, ⟨0, 0, 1⟩, ⟨0, 0, -1⟩]
def axX (a : V3) : Bool := a.y == 0 && a.z == 0
def axY (a : V3) : Bool := a.x == 0 && a.z == 0
def axZ (a : V3) : Bool := a.x == 0 && a.y == 0
def ax3 (a b c : V3) : Bool := dot a (o4 b c) == 0 || ((dot a (o4 b c) == 1 || dot a (o4 b c) == -1) && ((axX a || (axX b || axX c)) && ((axY a || (axY b || axY c)) && (axZ a || (axZ b || axZ c)))))
theorem Zc5 : (axs.all fun a => axs.all fun b => axs.all fun c => ax3 a b c) = true := by decide
theorem Rc3 {a b c : V3} (ha : a ∈ axs) (hb : b ∈ axs) (hc : c ∈ axs) (h : dot a (o4 b c) ≠ 0) :
  (dot a (o4 b c) = 1 ∨ dot a (o4 b c) = -1) ∧ (axX a = true ∨ axX b = true ∨ axX c = true) ∧ (axY a = true ∨ axY b = true ∨ axY c = true) ∧ (axZ a = true ∨ axZ b = true ∨ axZ c = true) := by
 have h1 := List.all_eq_true.1 (List.all_eq_true.1 (List.all_eq_true.1 Zc5 a ha) b hb) c hc
 unfold ax3 at h1
 simp only [Bool.or_eq_true, Bool.and_eq_true, beq_iff_eq] at h1
 exact h1.resolve_left h
structure Box (lo hi : V3) : Prop where
 lx : Sm 20 lo.x
 ly : Sm 20 lo.y
 lz : Sm 20 lo.z
 hx : Sm 20 hi.x
 hy : Sm 20 hi.y
 hz : Sm 20 hi.z
 x : lo.x < hi.x
 y : lo.y < hi.y
 z : lo.z < hi.z
def bx (lo hi : V3) : List Pln := [⟨⟨1, 0, 0⟩, hi.x⟩, ⟨⟨-1, 0, 0⟩, -lo.x⟩, ⟨⟨0, 1, 0⟩, hi.y⟩, ⟨⟨0, -1, 0⟩, -lo.y⟩, ⟨⟨0, 0, 1⟩, hi.z⟩, ⟨⟨0, 0, -1⟩, -lo.z⟩]
theorem dc3 {lo hi : V3} (h : Box lo hi) : tc8 lo hi = bx lo hi := by
 have w : ∀ {x : Int}, Sm 20 x → W (0 - x) = -x := fun h => by rw [Ca1 (by have := h.1; have := h.2; omega) (by have := h.1; have := h.2; omega)]; omega
 unfold tc8 bx
 rw [w h.lx, w h.ly, w h.lz]
theorem ja7 {lo hi : V3} (h : Box lo hi) : Rb2 (bx lo hi) := dc3 h ▸ Rc0 ⟨h.lx, h.ly, h.lz⟩ ⟨h.hx, h.hy, h.hz⟩ ⟨h.x, h.y, h.z⟩
noncomputable def bxw (lo hi : V3) : List Pln := bx lo hi ++ ws
theorem yb2 {lo hi : V3} : ∀ p ∈ bxw lo hi, p.n ∈ axs := by
 intro p hp
 simp only [bxw, bx, ws, List.cons_append, List.nil_append, List.mem_cons, List.not_mem_nil, or_false] at hp
 rcases hp with rfl | rfl | rfl | rfl | rfl | rfl | rfl | rfl | rfl | rfl | rfl | rfl <;> simp [axs]
structure InB (lo hi : V3) (x : Pt) : Prop where
 x1 : lo.x * x.pw ≤ x.px
 x2 : x.px ≤ hi.x * x.pw
 y1 : lo.y * x.pw ≤ x.py
 y2 : x.py ≤ hi.y * x.pw
 z1 : lo.z * x.pw ≤ x.pz
 z2 : x.pz ≤ hi.z * x.pw
theorem jd6 {lo hi : V3} {x : Pt} {r : List Pln} (hr : ∀ p ∈ bx lo hi, p ∈ r) (h : Inr r x) : InB lo hi x := by
 have g : ∀ p, p ∈ bx lo hi → 0 ≤ rmZ p x := fun p hp => h.h p (hr p hp)
 have h1 := g ⟨⟨1, 0, 0⟩, hi.x⟩ (by simp [bx])
 have h2 := g ⟨⟨-1, 0, 0⟩, -lo.x⟩ (by simp [bx])
 have h3 := g ⟨⟨0, 1, 0⟩, hi.y⟩ (by simp [bx])
 have h4 := g ⟨⟨0, -1, 0⟩, -lo.y⟩ (by simp [bx])
 have h5 := g ⟨⟨0, 0, 1⟩, hi.z⟩ (by simp [bx])
 have h6 := g ⟨⟨0, 0, -1⟩, -lo.z⟩ (by simp [bx])
 simp only [rmZ, Int.neg_mul] at h1 h2 h3 h4 h5 h6
 constructor <;> omega
theorem InB.inr {lo hi : V3} {x : Pt} (hb : Box lo hi) (hw : 0 < x.pw) (h : InB lo hi x) : Inr (bxw lo hi) x := by
 obtain ⟨⟨a1, a2⟩, ⟨a3, a4⟩, ⟨a5, a6⟩, ⟨b1, b2⟩, ⟨b3, b4⟩, ⟨b5, b6⟩, _, _, _⟩ := hb
 obtain ⟨x1, x2, y1, y2, z1, z2⟩ := h
 have m : ∀ {a : Int}, a ≤ 20 → a * x.pw ≤ 20 * x.pw := fun h => Int.mul_le_mul_of_nonneg_right h (Int.le_of_lt hw)
 have m' : ∀ {a : Int}, -20 ≤ a → -20 * x.pw ≤ a * x.pw := fun h => Int.mul_le_mul_of_nonneg_right h (Int.le_of_lt hw)
 have := m b2; have := m b4; have := m b6; have := m' a1; have := m' a3; have := m' a5
 refine ⟨hw, fun p hp => ?_⟩
 simp only [bxw, bx, ws, List.cons_append, List.nil_append, List.mem_cons, List.not_mem_nil, or_false] at hp
 rcases hp with rfl | rfl | rfl | rfl | rfl | rfl | rfl | rfl | rfl | rfl | rfl | rfl <;> simp only [rmZ, Int.neg_mul] <;> omega
theorem cd4 {lo hi : V3} (h : Box lo hi) : ∀ x ∈ cor (bxw lo hi), x.pw = 1 := fun x hx => by
 have h1 : x.pw = 1 ∨ x.pw = -1 := bc5 (Q := fun x => x.pw = 1 ∨ x.pw = -1) (fun p hp q hq s hs hm _ => by
  obtain ⟨h0, k, _, _, _, _, hk⟩ := Qc4 hm
  have := (Rc3 (yb2 p hp) (yb2 q hq) (yb2 s hs) h0).1
  have hkm : k * (mpt p q s).1.pw = 1 ∨ k * (mpt p q s).1.pw = -1 := by rw [hk]; exact this
  generalize (mpt p q s).1.pw = w at *
  have hn : k.natAbs * w.natAbs = 1 := by rw [← Int.natAbs_mul]; omega
  have := Nat.eq_one_of_mul_eq_one_left hn
  omega) x hx
 have := (fb2 (ja7 h).bds x hx).w1
 omega
def bxE (lo hi : V3) : List Pt := [⟨lo.x, lo.y, lo.z, 1⟩, ⟨lo.x, lo.y, hi.z, 1⟩, ⟨lo.x, hi.y, lo.z, 1⟩, ⟨lo.x, hi.y, hi.z, 1⟩, ⟨hi.x, lo.y, lo.z, 1⟩, ⟨hi.x, lo.y, hi.z, 1⟩, ⟨hi.x, hi.y, lo.z, 1⟩, ⟨hi.x, hi.y, hi.z, 1⟩]
theorem fb5 {lo hi : V3} {x : Pt} : x ∈ bxE lo hi ↔ x.pw = 1 ∧ (x.px = lo.x ∨ x.px = hi.x) ∧ (x.py = lo.y ∨ x.py = hi.y) ∧ (x.pz = lo.z ∨ x.pz = hi.z) := by
 obtain ⟨a, b, c, w⟩ := x
 simp only [bxE, List.mem_cons, List.not_mem_nil, or_false, Pt.mk.injEq]
 constructor
 ·rintro (⟨rfl, rfl, rfl, rfl⟩ | ⟨rfl, rfl, rfl, rfl⟩ | ⟨rfl, rfl, rfl, rfl⟩ | ⟨rfl, rfl, rfl, rfl⟩ | ⟨rfl, rfl, rfl, rfl⟩ | ⟨rfl, rfl, rfl, rfl⟩ | ⟨rfl, rfl, rfl, rfl⟩ | ⟨rfl, rfl, rfl, rfl⟩) <;> simp
 ·rintro ⟨rfl, rfl | rfl, rfl | rfl, rfl | rfl⟩ <;> simp
theorem Gc2 {lo hi : V3} (h : Box lo hi) : (bxE lo hi).Nodup := by
 have := h.x; have := h.y; have := h.z
 simp only [bxE, List.nodup_cons, List.mem_cons, List.not_mem_nil, or_false, Pt.mk.injEq, List.nodup_nil, and_true, not_or, not_false_eq_true]
 omega
theorem dc4 {lo hi : V3} (h : Box lo hi) {p : Pln} (hp : p ∈ bxw lo hi) (ha : axX p.n = true) {x : Pt} (hw : x.pw = 1) (hi' : InB lo hi x) (h0 : rmZ p x = 0) : x.px = lo.x ∨ x.px = hi.x := by
 obtain ⟨⟨a1, a2⟩, ⟨a3, a4⟩, ⟨a5, a6⟩, ⟨b1, b2⟩, ⟨b3, b4⟩, ⟨b5, b6⟩, _, _, _⟩ := h
 obtain ⟨x1, x2, y1, y2, z1, z2⟩ := hi'
 simp only [bxw, bx, ws, List.cons_append, List.nil_append, List.mem_cons, List.not_mem_nil, or_false] at hp
 rw [hw] at x1 x2
 rcases hp with rfl | rfl | rfl | rfl | rfl | rfl | rfl | rfl | rfl | rfl | rfl | rfl <;> first | (simp [axX, axY, axZ] at ha; done) | (simp only [rmZ, hw] at h0; omega)
theorem dc5 {lo hi : V3} (h : Box lo hi) {p : Pln} (hp : p ∈ bxw lo hi) (ha : axY p.n = true) {x : Pt} (hw : x.pw = 1) (hi' : InB lo hi x) (h0 : rmZ p x = 0) : x.py = lo.y ∨ x.py = hi.y := by
 obtain ⟨⟨a1, a2⟩, ⟨a3, a4⟩, ⟨a5, a6⟩, ⟨b1, b2⟩, ⟨b3, b4⟩, ⟨b5, b6⟩, _, _, _⟩ := h
 obtain ⟨x1, x2, y1, y2, z1, z2⟩ := hi'
 simp only [bxw, bx, ws, List.cons_append, List.nil_append, List.mem_cons, List.not_mem_nil, or_false] at hp
 rw [hw] at y1 y2
 rcases hp with rfl | rfl | rfl | rfl | rfl | rfl | rfl | rfl | rfl | rfl | rfl | rfl <;> first | (simp [axX, axY, axZ] at ha; done) | (simp only [rmZ, hw] at h0; omega)
theorem dc6 {lo hi : V3} (h : Box lo hi) {p : Pln} (hp : p ∈ bxw lo hi) (ha : axZ p.n = true) {x : Pt} (hw : x.pw = 1) (hi' : InB lo hi x) (h0 : rmZ p x = 0) : x.pz = lo.z ∨ x.pz = hi.z := by
 obtain ⟨⟨a1, a2⟩, ⟨a3, a4⟩, ⟨a5, a6⟩, ⟨b1, b2⟩, ⟨b3, b4⟩, ⟨b5, b6⟩, _, _, _⟩ := h
 obtain ⟨x1, x2, y1, y2, z1, z2⟩ := hi'
 simp only [bxw, bx, ws, List.cons_append, List.nil_append, List.mem_cons, List.not_mem_nil, or_false] at hp
 rw [hw] at z1 z2
 rcases hp with rfl | rfl | rfl | rfl | rfl | rfl | rfl | rfl | rfl | rfl | rfl | rfl <;> first | (simp [axX, axY, axZ] at ha; done) | (simp only [rmZ, hw] at h0; omega)
theorem tb1 {lo hi : V3} {p : Pln} (h : p ∈ bx lo hi) : p ∈ bxw lo hi := List.mem_append_left _ h
theorem jd7 (lo hi : V3) {a : Int} (h : a = lo.x ∨ a = hi.x) : ∃ s : Int, (s = 1 ∨ s = -1) ∧ (⟨⟨s, 0, 0⟩, s * a⟩ : Pln) ∈ bx lo hi := by
 rcases h with rfl | rfl
 ·exact ⟨-1, .inr rfl, by simp [bx]⟩
 ·exact ⟨1, .inl rfl, by simp [bx]⟩
theorem jd8 (lo hi : V3) {a : Int} (h : a = lo.y ∨ a = hi.y) : ∃ s : Int, (s = 1 ∨ s = -1) ∧ (⟨⟨0, s, 0⟩, s * a⟩ : Pln) ∈ bx lo hi := by
 rcases h with rfl | rfl
 ·exact ⟨-1, .inr rfl, by simp [bx]⟩
 ·exact ⟨1, .inl rfl, by simp [bx]⟩
theorem jd9 (lo hi : V3) {a : Int} (h : a = lo.z ∨ a = hi.z) : ∃ s : Int, (s = 1 ∨ s = -1) ∧ (⟨⟨0, 0, s⟩, s * a⟩ : Pln) ∈ bx lo hi := by
 rcases h with rfl | rfl
 ·exact ⟨-1, .inr rfl, by simp [bx]⟩
 ·exact ⟨1, .inl rfl, by simp [bx]⟩
theorem Rc4 {lo hi : V3} (h : Box lo hi) {x : Pt} (hx : x ∈ bxE lo hi) : InB lo hi x := by
 obtain ⟨hw, h1, h2, h3⟩ := fb5.1 hx
 have := h.x; have := h.y; have := h.z
 constructor <;> rw [hw] <;> omega
theorem kd0 {lo hi : V3} (h : Box lo hi) {x : Pt} (hx : x ∈ bxE lo hi) : Cn (bxw lo hi) x := by
 obtain ⟨hw, h1, h2, h3⟩ := fb5.1 hx
 obtain ⟨s, hs, m1⟩ := jd7 lo hi h1
 obtain ⟨t, ht, m2⟩ := jd8 lo hi h2
 obtain ⟨u, hu, m3⟩ := jd9 lo hi h3
 refine ⟨(Rc4 h hx).inr h (by omega), _, _, _, tb1 m1, tb1 m2, tb1 m3, ?_, ?_, ?_, ?_⟩
 ·unfold mw dot o4
  simp only
  rcases hs with rfl | rfl <;> rcases ht with rfl | rfl <;> rcases hu with rfl | rfl <;> decide
 ·simp only [rmZ, hw]; omega
 ·simp only [rmZ, hw]; omega
 ·simp only [rmZ, hw]; omega
theorem Ac1 {lo hi : V3} (h : Box lo hi) (x : Pt) : x ∈ cor (bxw lo hi) ↔ x ∈ bxE lo hi := by
 have hb := (ja7 h).bds
 constructor
 ·intro hx
  have hw := cd4 h x hx
  have hc := Qc7 hb x hx
  have hin := jd6 (fun p hp => tb1 hp) hc.toInr
  obtain ⟨p, q, s, hp, hq, hs, h0, r1, r2, r3⟩ := hc.c
  obtain ⟨_, k1, k2, k3⟩ := Rc3 (yb2 p hp) (yb2 q hq) (yb2 s hs) h0
  refine fb5.2 ⟨hw, ?_, ?_, ?_⟩
  ·rcases k1 with k | k | k
   ·exact dc4 h hp k hw hin r1
   ·exact dc4 h hq k hw hin r2
   ·exact dc4 h hs k hw hin r3
  ·rcases k2 with k | k | k
   ·exact dc5 h hp k hw hin r1
   ·exact dc5 h hq k hw hin r2
   ·exact dc5 h hs k hw hin r3
  ·rcases k3 with k | k | k
   ·exact dc6 h hp k hw hin r1
   ·exact dc6 h hq k hw hin r2
   ·exact dc6 h hs k hw hin r3
 ·intro hx
  obtain ⟨y, hy, e⟩ := Qc8 hb (kd0 h hx)
  have hw := cd4 h y hy
  have hw' := (fb5.1 hx).1
  have : y = x := by
   obtain ⟨e1, e2, e3⟩ := e
   obtain ⟨y1, y2, y3, y4⟩ := y
   obtain ⟨x1, x2, x3, x4⟩ := x
   simp only at hw hw' e1 e2 e3
   subst hw hw'
   simp only [Int.mul_one] at e1 e2 e3
   subst e1 e2 e3
   rfl
  exact this ▸ hy
theorem Rc5 {lo hi : V3} (h : Box lo hi) : List.Perm (cor (bxw lo hi)) (bxE lo hi) := (List.perm_ext_iff_of_nodup (Gc1 _) (Gc2 h)).2 (Ac1 h)
theorem Ua6 {lo hi : V3} (h : Box lo hi) : List.Perm (pts (bx lo hi)) (bxE lo hi) := by
 rw [(ja7 h).pts]
 exact Rc5 h
theorem pd6 {lo hi : V3} (h : Box lo hi) : (pts (bx lo hi)).length = 8 := (Ua6 h).length_eq
end Go.Ev.Ce
namespace Go.Ev.Ce
open Go Go.Ev Go.Ev.L Go.Proofs
structure B6 where
 c0 : Int
 c1 : Int
 c2 : Int
 c3 : Int
 c4 : Int
 c5 : Int
def pd7 : List a7 → Bool
 | [.v (.int .u8 _), .v (.int .u8 _), .v (.int .u8 _), .v (.int .u8 _), .v (.int .u8 _), .v (.int .u8 _)] => true
 | _ => false
def ud0 : List a7 → B6
 | [.v (.int .u8 x), .v (.int .u8 y), .v (.int .u8 z), .v (.int .u8 u), .v (.int .u8 v), .v (.int .u8 w)] => ⟨x, y, z, u, v, w⟩
 | _ => ⟨0, 0, 0, 0, 0, 0⟩
noncomputable def tS : Ty B6 where
 es := 6
 row x := [.v (.int .u8 x.c0), .v (.int .u8 x.c1), .v (.int .u8 x.c2), .v (.int .u8 x.c3), .v (.int .u8 x.c4), .v (.int .u8 x.c5)]
 rd := ud0
 ok := pd7
 cks := List.replicate 6 (.int .u8)
 d := ⟨0, 0, 0, 0, 0, 0⟩
 h0 _ := rfl
 h1 _ := rfl
 h2 _ := rfl
 h3 r h := by
  unfold pd7 at h
  split at h
  ·exact .refl _
  ·cases h
 h4 _ := rfl
 h5 _ := rfl
end Go.Ev.Ce
section
namespace Go.Ev.Ce
open Go Go.Ev Go.Ev.L Go.Proofs
set_option maxRecDepth 100000
noncomputable def yb3 : List (Nat × Sum) := []
theorem tb2 : o8 prog G yb3 := trivial
noncomputable def y9 (x : Int) (y : Int) (z : Int) (w : Int) : Bool := (decide ((if z > x then z else x) < (if w < y then w else y)))
noncomputable def Va7 : Sum := dd9 cI cI cI cI (fun x y z w => .ret ((one r1B).enc (y9 x y z w), []))
theorem yb4 : j6 prog G 11 Va7 := Uc2 (bd b11 tb2) fun x y z w => I7 (by kernel_rfl)
noncomputable def mb3 : List (Nat × Sum) := [(5, cb6), (6, bb2), (7, mb1), (8, Ta3), (9, fa2), (10, cb5), (11, Va7), (12, Ua1), (13, Na5), (14, mb0)]
theorem gb8 : o8 prog G mb3 := ⟨Cb5, qb5, Ab1, ib9, ia0, sb7, yb4, jb2, cb2, Ab0, trivial⟩
noncomputable def Y5 (x : B6) (y : B6) : Option (a7 × List a8) := let t1 := sa1; let t3 := (G0 (⟨(W ((W (Int.tmod x.c3 20)) - 10)), (W ((W (Int.tmod x.c4 20)) - 10)), (W ((W (Int.tmod x.c5 20)) - 10))⟩ : V3) (⟨(W (1 + (W (Int.tmod y.c3 8)))), (W (1 + (W (Int.tmod y.c4 8)))), (W (1 + (W (Int.tmod y.c5 8))))⟩ : V3)); let t5 := (u6 (⟨(W ((W (Int.tmod x.c3 20)) - 10)), (W ((W (Int.tmod x.c4 20)) - 10)), (W ((W (Int.tmod x.c5 20)) - 10))⟩ : V3) t3); let a0 := (W ((W (Int.tmod x.c0 20)) - 10)); let a1 := (W ((W (Int.tmod x.c1 20)) - 10)); let a2 := (W ((W (Int.tmod x.c2 20)) - 10)); let t2 := (G0 (⟨a0, a1, a2⟩ : V3) (⟨(W (1 + (W (Int.tmod y.c0 8)))), (W (1 + (W (Int.tmod y.c1 8)))), (W (1 + (W (Int.tmod y.c2 8))))⟩ : V3)); let t4 := (u6 (⟨a0, a1, a2⟩ : V3) t2); let t6 := (ra4 [(⟨(⟨1, 0, 0⟩ : V3), t4.c7⟩ : Pln), (⟨(⟨(-1), 0, 0⟩ : V3), t4.d7⟩ : Pln), (⟨(⟨0, 1, 0⟩ : V3), t4.d8⟩ : Pln), (⟨(⟨0, (-1), 0⟩ : V3), t4.d9⟩ : Pln), (⟨(⟨0, 0, 1⟩ : V3), t4.e7⟩ : Pln), (⟨(⟨0, 0, (-1)⟩ : V3), t4.e8⟩ : Pln)]); let t7 := (N6 [(⟨(⟨1, 0, 0⟩ : V3), t4.c7⟩ : Pln), (⟨(⟨(-1), 0, 0⟩ : V3), t4.d7⟩ : Pln), (⟨(⟨0, 1, 0⟩ : V3), t4.d8⟩ : Pln), (⟨(⟨0, (-1), 0⟩ : V3), t4.d9⟩ : Pln), (⟨(⟨0, 0, 1⟩ : V3), t4.e7⟩ : Pln), (⟨(⟨0, 0, (-1)⟩ : V3), t4.e8⟩ : Pln)]); let t8 := (ya0 ((⟨(⟨1, 0, 0⟩ : V3), t4.c7⟩ : Pln), [(⟨(⟨(-1), 0, 0⟩ : V3), t4.d7⟩ : Pln), (⟨(⟨0, 1, 0⟩ : V3), t4.d8⟩ : Pln), (⟨(⟨0, (-1), 0⟩ : V3), t4.d9⟩ : Pln), (⟨(⟨0, 0, 1⟩ : V3), t4.e7⟩ : Pln), (⟨(⟨0, 0, (-1)⟩ : V3), t4.e8⟩ : Pln)])); let t9 := (y9 a0 t2.x (W ((W (Int.tmod x.c3 20)) - 10)) t3.x); let t10 := (y9 a1 t2.y (W ((W (Int.tmod x.c4 20)) - 10)) t3.y); let t11 := (y9 a2 t2.z (W ((W (Int.tmod x.c5 20)) - 10)) t3.z); let t12 := (da4 [(⟨(⟨1, 0, 0⟩ : V3), t4.c7⟩ : Pln), (⟨(⟨(-1), 0, 0⟩ : V3), t4.d7⟩ : Pln), (⟨(⟨0, 1, 0⟩ : V3), t4.d8⟩ : Pln), (⟨(⟨0, (-1), 0⟩ : V3), t4.d9⟩ : Pln), (⟨(⟨0, 0, 1⟩ : V3), t4.e7⟩ : Pln), (⟨(⟨0, 0, (-1)⟩ : V3), t4.e8⟩ : Pln)] [(⟨(⟨1, 0, 0⟩ : V3), t5.c7⟩ : Pln), (⟨(⟨(-1), 0, 0⟩ : V3), t5.d7⟩ : Pln), (⟨(⟨0, 1, 0⟩ : V3), t5.d8⟩ : Pln), (⟨(⟨0, (-1), 0⟩ : V3), t5.d9⟩ : Pln), (⟨(⟨0, 0, 1⟩ : V3), t5.e7⟩ : Pln), (⟨(⟨0, 0, (-1)⟩ : V3), t5.e8⟩ : Pln)]); let t13 := (Z5 [(⟨(⟨1, 0, 0⟩ : V3), t4.c7⟩ : Pln), (⟨(⟨(-1), 0, 0⟩ : V3), t4.d7⟩ : Pln), (⟨(⟨0, 1, 0⟩ : V3), t4.d8⟩ : Pln), (⟨(⟨0, (-1), 0⟩ : V3), t4.d9⟩ : Pln), (⟨(⟨0, 0, 1⟩ : V3), t4.e7⟩ : Pln), (⟨(⟨0, 0, (-1)⟩ : V3), t4.e8⟩ : Pln)] [(⟨(⟨1, 0, 0⟩ : V3), t5.c7⟩ : Pln), (⟨(⟨(-1), 0, 0⟩ : V3), t5.d7⟩ : Pln), (⟨(⟨0, 1, 0⟩ : V3), t5.d8⟩ : Pln), (⟨(⟨0, (-1), 0⟩ : V3), t5.d9⟩ : Pln), (⟨(⟨0, 0, 1⟩ : V3), t5.e7⟩ : Pln), (⟨(⟨0, 0, (-1)⟩ : V3), t5.e8⟩ : Pln)]); let t14 := (oa0 [(⟨(⟨1, 0, 0⟩ : V3), t5.c7⟩ : Pln), (⟨(⟨(-1), 0, 0⟩ : V3), t5.d7⟩ : Pln), (⟨(⟨0, 1, 0⟩ : V3), t5.d8⟩ : Pln), (⟨(⟨0, (-1), 0⟩ : V3), t5.d9⟩ : Pln), (⟨(⟨0, 0, 1⟩ : V3), t5.e7⟩ : Pln), (⟨(⟨0, 0, (-1)⟩ : V3), t5.e8⟩ : Pln)] (⟨a0, a1, a2⟩ : V3)); let t15 := (oa0 [(⟨(⟨1, 0, 0⟩ : V3), t5.c7⟩ : Pln), (⟨(⟨(-1), 0, 0⟩ : V3), t5.d7⟩ : Pln), (⟨(⟨0, 1, 0⟩ : V3), t5.d8⟩ : Pln), (⟨(⟨0, (-1), 0⟩ : V3), t5.d9⟩ : Pln), (⟨(⟨0, 0, 1⟩ : V3), t5.e7⟩ : Pln), (⟨(⟨0, 0, (-1)⟩ : V3), t5.e8⟩ : Pln)] t2); let t16 := (Z5 [(⟨(⟨1, 0, 0⟩ : V3), t4.c7⟩ : Pln), (⟨(⟨(-1), 0, 0⟩ : V3), t4.d7⟩ : Pln), (⟨(⟨0, 1, 0⟩ : V3), t4.d8⟩ : Pln), (⟨(⟨0, (-1), 0⟩ : V3), t4.d9⟩ : Pln), (⟨(⟨0, 0, 1⟩ : V3), t4.e7⟩ : Pln), (⟨(⟨0, 0, (-1)⟩ : V3), t4.e8⟩ : Pln)] [(⟨(⟨1, 0, 0⟩ : V3), t4.c7⟩ : Pln), (⟨(⟨(-1), 0, 0⟩ : V3), t4.d7⟩ : Pln), (⟨(⟨0, 1, 0⟩ : V3), t4.d8⟩ : Pln), (⟨(⟨0, (-1), 0⟩ : V3), t4.d9⟩ : Pln), (⟨(⟨0, 0, 1⟩ : V3), t4.e7⟩ : Pln), (⟨(⟨0, 0, (-1)⟩ : V3), t4.e8⟩ : Pln)]); let t17 := (da4 [(⟨(⟨1, 0, 0⟩ : V3), t4.c7⟩ : Pln), (⟨(⟨(-1), 0, 0⟩ : V3), t4.d7⟩ : Pln), (⟨(⟨0, 1, 0⟩ : V3), t4.d8⟩ : Pln), (⟨(⟨0, (-1), 0⟩ : V3), t4.d9⟩ : Pln), (⟨(⟨0, 0, 1⟩ : V3), t4.e7⟩ : Pln), (⟨(⟨0, 0, (-1)⟩ : V3), t4.e8⟩ : Pln)] [(⟨(⟨1, 0, 0⟩ : V3), t4.c7⟩ : Pln), (⟨(⟨(-1), 0, 0⟩ : V3), t4.d7⟩ : Pln), (⟨(⟨0, 1, 0⟩ : V3), t4.d8⟩ : Pln), (⟨(⟨0, (-1), 0⟩ : V3), t4.d9⟩ : Pln), (⟨(⟨0, 0, 1⟩ : V3), t4.e7⟩ : Pln), (⟨(⟨0, 0, (-1)⟩ : V3), t4.e8⟩ : Pln)]); (sl sa2 (sl (ra5 [(⟨(⟨1, 0, 0⟩ : V3), t4.c7⟩ : Pln), (⟨(⟨(-1), 0, 0⟩ : V3), t4.d7⟩ : Pln), (⟨(⟨0, 1, 0⟩ : V3), t4.d8⟩ : Pln), (⟨(⟨0, (-1), 0⟩ : V3), t4.d9⟩ : Pln), (⟨(⟨0, 0, 1⟩ : V3), t4.e7⟩ : Pln), (⟨(⟨0, 0, (-1)⟩ : V3), t4.e8⟩ : Pln)]) (sl (N7 [(⟨(⟨1, 0, 0⟩ : V3), t4.c7⟩ : Pln), (⟨(⟨(-1), 0, 0⟩ : V3), t4.d7⟩ : Pln), (⟨(⟨0, 1, 0⟩ : V3), t4.d8⟩ : Pln), (⟨(⟨0, (-1), 0⟩ : V3), t4.d9⟩ : Pln), (⟨(⟨0, 0, 1⟩ : V3), t4.e7⟩ : Pln), (⟨(⟨0, 0, (-1)⟩ : V3), t4.e8⟩ : Pln)]) (sl ((↑(List.length t7) : Int) != 8) (some ((b false), [])) (sl (ya1 ((⟨(⟨1, 0, 0⟩ : V3), t4.c7⟩ : Pln), [(⟨(⟨(-1), 0, 0⟩ : V3), t4.d7⟩ : Pln), (⟨(⟨0, 1, 0⟩ : V3), t4.d8⟩ : Pln), (⟨(⟨0, (-1), 0⟩ : V3), t4.d9⟩ : Pln), (⟨(⟨0, 0, 1⟩ : V3), t4.e7⟩ : Pln), (⟨(⟨0, 0, (-1)⟩ : V3), t4.e8⟩ : Pln)])) (sl ((↑(List.length t8) : Int) != 6) (some ((b false), [])) (sl (!t6.2.2) (some ((b false), [])) (sl (!((t6.1.x == a0) && ((t6.1.y == a1) && ((t6.1.z == a2) && true)))) (some ((b false), [])) (sl (!((t6.2.1.x == t2.x) && ((t6.2.1.y == t2.y) && ((t6.2.1.z == t2.z) && true)))) (some ((b false), [])) (sl t9 (sl t10 (sl t1 (sl (E0 [(⟨(⟨1, 0, 0⟩ : V3), t4.c7⟩ : Pln), (⟨(⟨(-1), 0, 0⟩ : V3), t4.d7⟩ : Pln), (⟨(⟨0, 1, 0⟩ : V3), t4.d8⟩ : Pln), (⟨(⟨0, (-1), 0⟩ : V3), t4.d9⟩ : Pln), (⟨(⟨0, 0, 1⟩ : V3), t4.e7⟩ : Pln), (⟨(⟨0, 0, (-1)⟩ : V3), t4.e8⟩ : Pln)] [(⟨(⟨1, 0, 0⟩ : V3), t5.c7⟩ : Pln), (⟨(⟨(-1), 0, 0⟩ : V3), t5.d7⟩ : Pln), (⟨(⟨0, 1, 0⟩ : V3), t5.d8⟩ : Pln), (⟨(⟨0, (-1), 0⟩ : V3), t5.d9⟩ : Pln), (⟨(⟨0, 0, 1⟩ : V3), t5.e7⟩ : Pln), (⟨(⟨0, 0, (-1)⟩ : V3), t5.e8⟩ : Pln)]) (sl (t12 == (!t11)) (sl (z5 [(⟨(⟨1, 0, 0⟩ : V3), t4.c7⟩ : Pln), (⟨(⟨(-1), 0, 0⟩ : V3), t4.d7⟩ : Pln), (⟨(⟨0, 1, 0⟩ : V3), t4.d8⟩ : Pln), (⟨(⟨0, (-1), 0⟩ : V3), t4.d9⟩ : Pln), (⟨(⟨0, 0, 1⟩ : V3), t4.e7⟩ : Pln), (⟨(⟨0, 0, (-1)⟩ : V3), t4.e8⟩ : Pln)] [(⟨(⟨1, 0, 0⟩ : V3), t5.c7⟩ : Pln), (⟨(⟨(-1), 0, 0⟩ : V3), t5.d7⟩ : Pln), (⟨(⟨0, 1, 0⟩ : V3), t5.d8⟩ : Pln), (⟨(⟨0, (-1), 0⟩ : V3), t5.d9⟩ : Pln), (⟨(⟨0, 0, 1⟩ : V3), t5.e7⟩ : Pln), (⟨(⟨0, 0, (-1)⟩ : V3), t5.e8⟩ : Pln)]) (sl (V5 [(⟨(⟨1, 0, 0⟩ : V3), t5.c7⟩ : Pln), (⟨(⟨(-1), 0, 0⟩ : V3), t5.d7⟩ : Pln), (⟨(⟨0, 1, 0⟩ : V3), t5.d8⟩ : Pln), (⟨(⟨0, (-1), 0⟩ : V3), t5.d9⟩ : Pln), (⟨(⟨0, 0, 1⟩ : V3), t5.e7⟩ : Pln), (⟨(⟨0, 0, (-1)⟩ : V3), t5.e8⟩ : Pln)] (⟨a0, a1, a2⟩ : V3)) (sl t14 (sl (V5 [(⟨(⟨1, 0, 0⟩ : V3), t5.c7⟩ : Pln), (⟨(⟨(-1), 0, 0⟩ : V3), t5.d7⟩ : Pln), (⟨(⟨0, 1, 0⟩ : V3), t5.d8⟩ : Pln), (⟨(⟨0, (-1), 0⟩ : V3), t5.d9⟩ : Pln), (⟨(⟨0, 0, 1⟩ : V3), t5.e7⟩ : Pln), (⟨(⟨0, 0, (-1)⟩ : V3), t5.e8⟩ : Pln)] t2) (sl (t13 == t15) (sl (z5 [(⟨(⟨1, 0, 0⟩ : V3), t4.c7⟩ : Pln), (⟨(⟨(-1), 0, 0⟩ : V3), t4.d7⟩ : Pln), (⟨(⟨0, 1, 0⟩ : V3), t4.d8⟩ : Pln), (⟨(⟨0, (-1), 0⟩ : V3), t4.d9⟩ : Pln), (⟨(⟨0, 0, 1⟩ : V3), t4.e7⟩ : Pln), (⟨(⟨0, 0, (-1)⟩ : V3), t4.e8⟩ : Pln)] [(⟨(⟨1, 0, 0⟩ : V3), t4.c7⟩ : Pln), (⟨(⟨(-1), 0, 0⟩ : V3), t4.d7⟩ : Pln), (⟨(⟨0, 1, 0⟩ : V3), t4.d8⟩ : Pln), (⟨(⟨0, (-1), 0⟩ : V3), t4.d9⟩ : Pln), (⟨(⟨0, 0, 1⟩ : V3), t4.e7⟩ : Pln), (⟨(⟨0, 0, (-1)⟩ : V3), t4.e8⟩ : Pln)]) (sl t16 (sl (E0 [(⟨(⟨1, 0, 0⟩ : V3), t4.c7⟩ : Pln), (⟨(⟨(-1), 0, 0⟩ : V3), t4.d7⟩ : Pln), (⟨(⟨0, 1, 0⟩ : V3), t4.d8⟩ : Pln), (⟨(⟨0, (-1), 0⟩ : V3), t4.d9⟩ : Pln), (⟨(⟨0, 0, 1⟩ : V3), t4.e7⟩ : Pln), (⟨(⟨0, 0, (-1)⟩ : V3), t4.e8⟩ : Pln)] [(⟨(⟨1, 0, 0⟩ : V3), t4.c7⟩ : Pln), (⟨(⟨(-1), 0, 0⟩ : V3), t4.d7⟩ : Pln), (⟨(⟨0, 1, 0⟩ : V3), t4.d8⟩ : Pln), (⟨(⟨0, (-1), 0⟩ : V3), t4.d9⟩ : Pln), (⟨(⟨0, 0, 1⟩ : V3), t4.e7⟩ : Pln), (⟨(⟨0, 0, (-1)⟩ : V3), t4.e8⟩ : Pln)]) (some ((b (!t17)), [])) none) (some ((b false), []))) none) (some ((b false), []))) none) (sl (t13 == false) (sl (z5 [(⟨(⟨1, 0, 0⟩ : V3), t4.c7⟩ : Pln), (⟨(⟨(-1), 0, 0⟩ : V3), t4.d7⟩ : Pln), (⟨(⟨0, 1, 0⟩ : V3), t4.d8⟩ : Pln), (⟨(⟨0, (-1), 0⟩ : V3), t4.d9⟩ : Pln), (⟨(⟨0, 0, 1⟩ : V3), t4.e7⟩ : Pln), (⟨(⟨0, 0, (-1)⟩ : V3), t4.e8⟩ : Pln)] [(⟨(⟨1, 0, 0⟩ : V3), t4.c7⟩ : Pln), (⟨(⟨(-1), 0, 0⟩ : V3), t4.d7⟩ : Pln), (⟨(⟨0, 1, 0⟩ : V3), t4.d8⟩ : Pln), (⟨(⟨0, (-1), 0⟩ : V3), t4.d9⟩ : Pln), (⟨(⟨0, 0, 1⟩ : V3), t4.e7⟩ : Pln), (⟨(⟨0, 0, (-1)⟩ : V3), t4.e8⟩ : Pln)]) (sl t16 (sl (E0 [(⟨(⟨1, 0, 0⟩ : V3), t4.c7⟩ : Pln), (⟨(⟨(-1), 0, 0⟩ : V3), t4.d7⟩ : Pln), (⟨(⟨0, 1, 0⟩ : V3), t4.d8⟩ : Pln), (⟨(⟨0, (-1), 0⟩ : V3), t4.d9⟩ : Pln), (⟨(⟨0, 0, 1⟩ : V3), t4.e7⟩ : Pln), (⟨(⟨0, 0, (-1)⟩ : V3), t4.e8⟩ : Pln)] [(⟨(⟨1, 0, 0⟩ : V3), t4.c7⟩ : Pln), (⟨(⟨(-1), 0, 0⟩ : V3), t4.d7⟩ : Pln), (⟨(⟨0, 1, 0⟩ : V3), t4.d8⟩ : Pln), (⟨(⟨0, (-1), 0⟩ : V3), t4.d9⟩ : Pln), (⟨(⟨0, 0, 1⟩ : V3), t4.e7⟩ : Pln), (⟨(⟨0, 0, (-1)⟩ : V3), t4.e8⟩ : Pln)]) (some ((b (!t17)), [])) none) (some ((b false), []))) none) (some ((b false), [])))) none) none) (some ((b false), []))) none) (some ((b false), []))) (sl t1 (sl (E0 [(⟨(⟨1, 0, 0⟩ : V3), t4.c7⟩ : Pln), (⟨(⟨(-1), 0, 0⟩ : V3), t4.d7⟩ : Pln), (⟨(⟨0, 1, 0⟩ : V3), t4.d8⟩ : Pln), (⟨(⟨0, (-1), 0⟩ : V3), t4.d9⟩ : Pln), (⟨(⟨0, 0, 1⟩ : V3), t4.e7⟩ : Pln), (⟨(⟨0, 0, (-1)⟩ : V3), t4.e8⟩ : Pln)] [(⟨(⟨1, 0, 0⟩ : V3), t5.c7⟩ : Pln), (⟨(⟨(-1), 0, 0⟩ : V3), t5.d7⟩ : Pln), (⟨(⟨0, 1, 0⟩ : V3), t5.d8⟩ : Pln), (⟨(⟨0, (-1), 0⟩ : V3), t5.d9⟩ : Pln), (⟨(⟨0, 0, 1⟩ : V3), t5.e7⟩ : Pln), (⟨(⟨0, 0, (-1)⟩ : V3), t5.e8⟩ : Pln)]) (sl (t12 == true) (sl (z5 [(⟨(⟨1, 0, 0⟩ : V3), t4.c7⟩ : Pln), (⟨(⟨(-1), 0, 0⟩ : V3), t4.d7⟩ : Pln), (⟨(⟨0, 1, 0⟩ : V3), t4.d8⟩ : Pln), (⟨(⟨0, (-1), 0⟩ : V3), t4.d9⟩ : Pln), (⟨(⟨0, 0, 1⟩ : V3), t4.e7⟩ : Pln), (⟨(⟨0, 0, (-1)⟩ : V3), t4.e8⟩ : Pln)] [(⟨(⟨1, 0, 0⟩ : V3), t5.c7⟩ : Pln), (⟨(⟨(-1), 0, 0⟩ : V3), t5.d7⟩ : Pln), (⟨(⟨0, 1, 0⟩ : V3), t5.d8⟩ : Pln), (⟨(⟨0, (-1), 0⟩ : V3), t5.d9⟩ : Pln), (⟨(⟨0, 0, 1⟩ : V3), t5.e7⟩ : Pln), (⟨(⟨0, 0, (-1)⟩ : V3), t5.e8⟩ : Pln)]) (sl (V5 [(⟨(⟨1, 0, 0⟩ : V3), t5.c7⟩ : Pln), (⟨(⟨(-1), 0, 0⟩ : V3), t5.d7⟩ : Pln), (⟨(⟨0, 1, 0⟩ : V3), t5.d8⟩ : Pln), (⟨(⟨0, (-1), 0⟩ : V3), t5.d9⟩ : Pln), (⟨(⟨0, 0, 1⟩ : V3), t5.e7⟩ : Pln), (⟨(⟨0, 0, (-1)⟩ : V3), t5.e8⟩ : Pln)] (⟨a0, a1, a2⟩ : V3)) (sl t14 (sl (V5 [(⟨(⟨1, 0, 0⟩ : V3), t5.c7⟩ : Pln), (⟨(⟨(-1), 0, 0⟩ : V3), t5.d7⟩ : Pln), (⟨(⟨0, 1, 0⟩ : V3), t5.d8⟩ : Pln), (⟨(⟨0, (-1), 0⟩ : V3), t5.d9⟩ : Pln), (⟨(⟨0, 0, 1⟩ : V3), t5.e7⟩ : Pln), (⟨(⟨0, 0, (-1)⟩ : V3), t5.e8⟩ : Pln)] t2) (sl (t13 == t15) (sl (z5 [(⟨(⟨1, 0, 0⟩ : V3), t4.c7⟩ : Pln), (⟨(⟨(-1), 0, 0⟩ : V3), t4.d7⟩ : Pln), (⟨(⟨0, 1, 0⟩ : V3), t4.d8⟩ : Pln), (⟨(⟨0, (-1), 0⟩ : V3), t4.d9⟩ : Pln), (⟨(⟨0, 0, 1⟩ : V3), t4.e7⟩ : Pln), (⟨(⟨0, 0, (-1)⟩ : V3), t4.e8⟩ : Pln)] [(⟨(⟨1, 0, 0⟩ : V3), t4.c7⟩ : Pln), (⟨(⟨(-1), 0, 0⟩ : V3), t4.d7⟩ : Pln), (⟨(⟨0, 1, 0⟩ : V3), t4.d8⟩ : Pln), (⟨(⟨0, (-1), 0⟩ : V3), t4.d9⟩ : Pln), (⟨(⟨0, 0, 1⟩ : V3), t4.e7⟩ : Pln), (⟨(⟨0, 0, (-1)⟩ : V3), t4.e8⟩ : Pln)]) (sl t16 (sl (E0 [(⟨(⟨1, 0, 0⟩ : V3), t4.c7⟩ : Pln), (⟨(⟨(-1), 0, 0⟩ : V3), t4.d7⟩ : Pln), (⟨(⟨0, 1, 0⟩ : V3), t4.d8⟩ : Pln), (⟨(⟨0, (-1), 0⟩ : V3), t4.d9⟩ : Pln), (⟨(⟨0, 0, 1⟩ : V3), t4.e7⟩ : Pln), (⟨(⟨0, 0, (-1)⟩ : V3), t4.e8⟩ : Pln)] [(⟨(⟨1, 0, 0⟩ : V3), t4.c7⟩ : Pln), (⟨(⟨(-1), 0, 0⟩ : V3), t4.d7⟩ : Pln), (⟨(⟨0, 1, 0⟩ : V3), t4.d8⟩ : Pln), (⟨(⟨0, (-1), 0⟩ : V3), t4.d9⟩ : Pln), (⟨(⟨0, 0, 1⟩ : V3), t4.e7⟩ : Pln), (⟨(⟨0, 0, (-1)⟩ : V3), t4.e8⟩ : Pln)]) (some ((b (!t17)), [])) none) (some ((b false), []))) none) (some ((b false), []))) none) (sl (t13 == false) (sl (z5 [(⟨(⟨1, 0, 0⟩ : V3), t4.c7⟩ : Pln), (⟨(⟨(-1), 0, 0⟩ : V3), t4.d7⟩ : Pln), (⟨(⟨0, 1, 0⟩ : V3), t4.d8⟩ : Pln), (⟨(⟨0, (-1), 0⟩ : V3), t4.d9⟩ : Pln), (⟨(⟨0, 0, 1⟩ : V3), t4.e7⟩ : Pln), (⟨(⟨0, 0, (-1)⟩ : V3), t4.e8⟩ : Pln)] [(⟨(⟨1, 0, 0⟩ : V3), t4.c7⟩ : Pln), (⟨(⟨(-1), 0, 0⟩ : V3), t4.d7⟩ : Pln), (⟨(⟨0, 1, 0⟩ : V3), t4.d8⟩ : Pln), (⟨(⟨0, (-1), 0⟩ : V3), t4.d9⟩ : Pln), (⟨(⟨0, 0, 1⟩ : V3), t4.e7⟩ : Pln), (⟨(⟨0, 0, (-1)⟩ : V3), t4.e8⟩ : Pln)]) (sl t16 (sl (E0 [(⟨(⟨1, 0, 0⟩ : V3), t4.c7⟩ : Pln), (⟨(⟨(-1), 0, 0⟩ : V3), t4.d7⟩ : Pln), (⟨(⟨0, 1, 0⟩ : V3), t4.d8⟩ : Pln), (⟨(⟨0, (-1), 0⟩ : V3), t4.d9⟩ : Pln), (⟨(⟨0, 0, 1⟩ : V3), t4.e7⟩ : Pln), (⟨(⟨0, 0, (-1)⟩ : V3), t4.e8⟩ : Pln)] [(⟨(⟨1, 0, 0⟩ : V3), t4.c7⟩ : Pln), (⟨(⟨(-1), 0, 0⟩ : V3), t4.d7⟩ : Pln), (⟨(⟨0, 1, 0⟩ : V3), t4.d8⟩ : Pln), (⟨(⟨0, (-1), 0⟩ : V3), t4.d9⟩ : Pln), (⟨(⟨0, 0, 1⟩ : V3), t4.e7⟩ : Pln), (⟨(⟨0, 0, (-1)⟩ : V3), t4.e8⟩ : Pln)]) (some ((b (!t17)), [])) none) (some ((b false), []))) none) (some ((b false), [])))) none) none) (some ((b false), []))) none) (some ((b false), [])))) (sl t1 (sl (E0 [(⟨(⟨1, 0, 0⟩ : V3), t4.c7⟩ : Pln), (⟨(⟨(-1), 0, 0⟩ : V3), t4.d7⟩ : Pln), (⟨(⟨0, 1, 0⟩ : V3), t4.d8⟩ : Pln), (⟨(⟨0, (-1), 0⟩ : V3), t4.d9⟩ : Pln), (⟨(⟨0, 0, 1⟩ : V3), t4.e7⟩ : Pln), (⟨(⟨0, 0, (-1)⟩ : V3), t4.e8⟩ : Pln)] [(⟨(⟨1, 0, 0⟩ : V3), t5.c7⟩ : Pln), (⟨(⟨(-1), 0, 0⟩ : V3), t5.d7⟩ : Pln), (⟨(⟨0, 1, 0⟩ : V3), t5.d8⟩ : Pln), (⟨(⟨0, (-1), 0⟩ : V3), t5.d9⟩ : Pln), (⟨(⟨0, 0, 1⟩ : V3), t5.e7⟩ : Pln), (⟨(⟨0, 0, (-1)⟩ : V3), t5.e8⟩ : Pln)]) (sl (t12 == true) (sl (z5 [(⟨(⟨1, 0, 0⟩ : V3), t4.c7⟩ : Pln), (⟨(⟨(-1), 0, 0⟩ : V3), t4.d7⟩ : Pln), (⟨(⟨0, 1, 0⟩ : V3), t4.d8⟩ : Pln), (⟨(⟨0, (-1), 0⟩ : V3), t4.d9⟩ : Pln), (⟨(⟨0, 0, 1⟩ : V3), t4.e7⟩ : Pln), (⟨(⟨0, 0, (-1)⟩ : V3), t4.e8⟩ : Pln)] [(⟨(⟨1, 0, 0⟩ : V3), t5.c7⟩ : Pln), (⟨(⟨(-1), 0, 0⟩ : V3), t5.d7⟩ : Pln), (⟨(⟨0, 1, 0⟩ : V3), t5.d8⟩ : Pln), (⟨(⟨0, (-1), 0⟩ : V3), t5.d9⟩ : Pln), (⟨(⟨0, 0, 1⟩ : V3), t5.e7⟩ : Pln), (⟨(⟨0, 0, (-1)⟩ : V3), t5.e8⟩ : Pln)]) (sl (V5 [(⟨(⟨1, 0, 0⟩ : V3), t5.c7⟩ : Pln), (⟨(⟨(-1), 0, 0⟩ : V3), t5.d7⟩ : Pln), (⟨(⟨0, 1, 0⟩ : V3), t5.d8⟩ : Pln), (⟨(⟨0, (-1), 0⟩ : V3), t5.d9⟩ : Pln), (⟨(⟨0, 0, 1⟩ : V3), t5.e7⟩ : Pln), (⟨(⟨0, 0, (-1)⟩ : V3), t5.e8⟩ : Pln)] (⟨a0, a1, a2⟩ : V3)) (sl t14 (sl (V5 [(⟨(⟨1, 0, 0⟩ : V3), t5.c7⟩ : Pln), (⟨(⟨(-1), 0, 0⟩ : V3), t5.d7⟩ : Pln), (⟨(⟨0, 1, 0⟩ : V3), t5.d8⟩ : Pln), (⟨(⟨0, (-1), 0⟩ : V3), t5.d9⟩ : Pln), (⟨(⟨0, 0, 1⟩ : V3), t5.e7⟩ : Pln), (⟨(⟨0, 0, (-1)⟩ : V3), t5.e8⟩ : Pln)] t2) (sl (t13 == t15) (sl (z5 [(⟨(⟨1, 0, 0⟩ : V3), t4.c7⟩ : Pln), (⟨(⟨(-1), 0, 0⟩ : V3), t4.d7⟩ : Pln), (⟨(⟨0, 1, 0⟩ : V3), t4.d8⟩ : Pln), (⟨(⟨0, (-1), 0⟩ : V3), t4.d9⟩ : Pln), (⟨(⟨0, 0, 1⟩ : V3), t4.e7⟩ : Pln), (⟨(⟨0, 0, (-1)⟩ : V3), t4.e8⟩ : Pln)] [(⟨(⟨1, 0, 0⟩ : V3), t4.c7⟩ : Pln), (⟨(⟨(-1), 0, 0⟩ : V3), t4.d7⟩ : Pln), (⟨(⟨0, 1, 0⟩ : V3), t4.d8⟩ : Pln), (⟨(⟨0, (-1), 0⟩ : V3), t4.d9⟩ : Pln), (⟨(⟨0, 0, 1⟩ : V3), t4.e7⟩ : Pln), (⟨(⟨0, 0, (-1)⟩ : V3), t4.e8⟩ : Pln)]) (sl t16 (sl (E0 [(⟨(⟨1, 0, 0⟩ : V3), t4.c7⟩ : Pln), (⟨(⟨(-1), 0, 0⟩ : V3), t4.d7⟩ : Pln), (⟨(⟨0, 1, 0⟩ : V3), t4.d8⟩ : Pln), (⟨(⟨0, (-1), 0⟩ : V3), t4.d9⟩ : Pln), (⟨(⟨0, 0, 1⟩ : V3), t4.e7⟩ : Pln), (⟨(⟨0, 0, (-1)⟩ : V3), t4.e8⟩ : Pln)] [(⟨(⟨1, 0, 0⟩ : V3), t4.c7⟩ : Pln), (⟨(⟨(-1), 0, 0⟩ : V3), t4.d7⟩ : Pln), (⟨(⟨0, 1, 0⟩ : V3), t4.d8⟩ : Pln), (⟨(⟨0, (-1), 0⟩ : V3), t4.d9⟩ : Pln), (⟨(⟨0, 0, 1⟩ : V3), t4.e7⟩ : Pln), (⟨(⟨0, 0, (-1)⟩ : V3), t4.e8⟩ : Pln)]) (some ((b (!t17)), [])) none) (some ((b false), []))) none) (some ((b false), []))) none) (sl (t13 == false) (sl (z5 [(⟨(⟨1, 0, 0⟩ : V3), t4.c7⟩ : Pln), (⟨(⟨(-1), 0, 0⟩ : V3), t4.d7⟩ : Pln), (⟨(⟨0, 1, 0⟩ : V3), t4.d8⟩ : Pln), (⟨(⟨0, (-1), 0⟩ : V3), t4.d9⟩ : Pln), (⟨(⟨0, 0, 1⟩ : V3), t4.e7⟩ : Pln), (⟨(⟨0, 0, (-1)⟩ : V3), t4.e8⟩ : Pln)] [(⟨(⟨1, 0, 0⟩ : V3), t4.c7⟩ : Pln), (⟨(⟨(-1), 0, 0⟩ : V3), t4.d7⟩ : Pln), (⟨(⟨0, 1, 0⟩ : V3), t4.d8⟩ : Pln), (⟨(⟨0, (-1), 0⟩ : V3), t4.d9⟩ : Pln), (⟨(⟨0, 0, 1⟩ : V3), t4.e7⟩ : Pln), (⟨(⟨0, 0, (-1)⟩ : V3), t4.e8⟩ : Pln)]) (sl t16 (sl (E0 [(⟨(⟨1, 0, 0⟩ : V3), t4.c7⟩ : Pln), (⟨(⟨(-1), 0, 0⟩ : V3), t4.d7⟩ : Pln), (⟨(⟨0, 1, 0⟩ : V3), t4.d8⟩ : Pln), (⟨(⟨0, (-1), 0⟩ : V3), t4.d9⟩ : Pln), (⟨(⟨0, 0, 1⟩ : V3), t4.e7⟩ : Pln), (⟨(⟨0, 0, (-1)⟩ : V3), t4.e8⟩ : Pln)] [(⟨(⟨1, 0, 0⟩ : V3), t4.c7⟩ : Pln), (⟨(⟨(-1), 0, 0⟩ : V3), t4.d7⟩ : Pln), (⟨(⟨0, 1, 0⟩ : V3), t4.d8⟩ : Pln), (⟨(⟨0, (-1), 0⟩ : V3), t4.d9⟩ : Pln), (⟨(⟨0, 0, 1⟩ : V3), t4.e7⟩ : Pln), (⟨(⟨0, 0, (-1)⟩ : V3), t4.e8⟩ : Pln)]) (some ((b (!t17)), [])) none) (some ((b false), []))) none) (some ((b false), [])))) none) none) (some ((b false), []))) none) (some ((b false), [])))))))) none)) none) none) none)
noncomputable def ga5 (x : B6) (y : B6) : Bool := la0 (one r1B) (Y5 x y)
noncomputable def ga6 (x : B6) (y : B6) : Bool := okO (one r1B) (Y5 x y)
noncomputable def tb3 : Sum := va9 (Ha4 tS) (Ha4 tS) (fun x y => .guard (ga6 x y) (.ret ((one r1B).enc (ga5 x y), [])))
theorem mb4 : j6 prog G 3 tb3 := Ib7 (bd b3 gb8) (one r1B) (o := Y5) fun x y => I7 (by kernel_rfl)
end Go.Ev.Ce
end
namespace Go.Ev.Ce
open Go Go.Ev Go.Ev.L Go.Proofs
theorem tb4 {lo hi : V3} (h : Box lo hi) {x : Pt} (hx : x ∈ bxE lo hi) : Okx x := fb2 (ja7 h).bds x ((Ac1 h x).2 hx)
theorem oc3 {lo hi : V3} (h : Box lo hi) : ∀ p ∈ bx lo hi, Bd p := fun p hp => Lb6 ((ja7 h).v p hp)
theorem kd1 {lo hi : V3} (h : Box lo hi) : ∀ p ∈ bx lo hi, 3 ≤ onc (pts (bx lo hi)) p := by
 intro p hp
 unfold onc
 rw [(Ua6 h).countP_eq]
 have e : (bxE lo hi).countP (fun x => rm p x == 0) = (bxE lo hi).countP (fun x => rmZ p x == 0) := List.countP_congr fun x hx => by rw [uc5 (oc3 h p hp) (tb4 h hx)]
 rw [e]
 simp only [bx, List.mem_cons, List.not_mem_nil, or_false] at hp
 rcases hp with rfl | rfl | rfl | rfl | rfl | rfl <;> simp [bxE, List.countP_cons, rmZ, Int.add_left_neg] <;> omega
theorem Rc6 : ∀ (l : List Pln), l.Nodup → dd l = l
 | [], _ => rfl
 | a :: l, h => by
  have key : ∀ (l : List Pln) (a : Pln), (a :: l).Nodup → ddF a l = l := fun l => by
   induction l with
   | nil => intro a _; rfl
   | cons x l ih =>
    intro a h
    have h1 := List.nodup_cons.1 h
    have hne : ¬ eqP x a = true := fun e => h1.1 (by rw [(zc3 x a).1 e]; exact List.mem_cons_self)
    show (if eqP x a then ddF x l else x :: ddF x l) = _
    rw [if_neg hne, ih x h1.2]
  show a :: ddF a l = _
  rw [key l a h]
theorem Rc7 (lo hi : V3) : (bx lo hi).Nodup := by simp [bx]
theorem Rc8 {lo hi : V3} (h : Box lo hi) : (lean (bx lo hi)).length = 6 := by
 unfold lean
 rw [if_pos (ja7 h).ful]
 have hf : (bx lo hi).filter (keep (pts (bx lo hi))) = bx lo hi := List.filter_eq_self.2 fun p hp => by
  have := kd1 h p hp
  unfold keep
  simp only [Bool.not_eq_true', decide_eq_false_iff_not]
  omega
 rw [hf, Rc6 _ ((mb2 _).nodup_iff.2 (Rc7 lo hi)), (mb2 _).length_eq]
 rfl
theorem yb5 (a c s : Int) : (if c < (if a < s then a else s) then c else (if a < s then a else s)) = (if a < (if c < s then c else s) then a else (if c < s then c else s)) := by
 repeat' split
 all_goals omega
theorem yb6 (a c s : Int) : (if c > (if a > s then a else s) then c else (if a > s then a else s)) = (if a > (if c > s then c else s) then a else (if c > s then c else s)) := by
 repeat' split
 all_goals omega
theorem uc7 (s : V3 × V3) (x y : Pt) : Ga4 (Ga4 s x) y = Ga4 (Ga4 s y) x := by
 unfold Ga4
 simp only
 rw [yb5 (x.px / x.pw), yb5 (x.py / x.pw), yb5 (x.pz / x.pw), yb6 (W (0 - -x.px / x.pw)), yb6 (W (0 - -x.py / x.pw)), yb6 (W (0 - -x.pz / x.pw))]
theorem Zc6 {lo hi : V3} (h : Box lo hi) : bnd (bx lo hi) = (lo, hi, true) := by
 unfold bnd
 rw [if_pos (ja7 h).ful, (Ua6 h).foldl_eq' (fun x _ y _ z => uc7 z x y)]
 obtain ⟨⟨a1, a2⟩, ⟨a3, a4⟩, ⟨a5, a6⟩, ⟨b1, b2⟩, ⟨b3, b4⟩, ⟨b5, b6⟩, c1, c2, c3⟩ := h
 have w : ∀ {x : Int}, -20 ≤ x → x ≤ 20 → W (0 - -x) = x := fun h h' => by rw [Ca1 (by omega) (by omega)]; omega
 have n1 : ¬ hi.x < lo.x := by omega
 have n2 : ¬ hi.y < lo.y := by omega
 have n3 : ¬ hi.z < lo.z := by omega
 have l1 : lo.x < 24 := by omega
 have l2 : lo.y < 24 := by omega
 have l3 : lo.z < 24 := by omega
 have m1 : -24 < lo.x := by omega
 have m2 : -24 < lo.y := by omega
 have m3 : -24 < lo.z := by omega
 simp only [bxE, List.foldl_cons, List.foldl_nil, Ga4, Int.ediv_one, w a1 a2, w a3 a4, w a5 a6, w b1 b2, w b3 b4, w b5 b6, gt_iff_lt, n1, n2, n3, l1, l2, l3, m1, m2, m3, c1, c2, c3, Int.lt_irrefl, if_true, if_false]
theorem yb7 (a c d e : Int) : y9 a c d e = true ↔ a < c ∧ a < e ∧ d < c ∧ d < e := by
 unfold y9
 rw [decide_eq_true_eq]
 split <;> split <;> omega
theorem uc8 {a c d e : Int} (h : a < c ∧ a < e ∧ d < c ∧ d < e) : ∃ m n, a ≤ m ∧ d ≤ m ∧ n ≤ c ∧ n ≤ e ∧ m < n := by
 refine ⟨if d > a then d else a, if e < c then e else c, ?_⟩
 split <;> split <;> omega
theorem Da9 {a c w p : Int} (hw : 0 < w) (h1 : a * w < p) (h2 : p < c * w) : a < c := Int.lt_of_mul_lt_mul_right (Int.lt_trans h1 h2) (Int.le_of_lt hw)
theorem Wb2 {lo hi lo' hi' : V3} (h : Box lo hi) (h' : Box lo' hi') :
  apart (bx lo hi) (bx lo' hi') = !(y9 lo.x hi.x lo'.x hi'.x && (y9 lo.y hi.y lo'.y hi'.y && y9 lo.z hi.z lo'.z hi'.z)) := by
 have k1 := (ja7 h).chk
 have k2 := (ja7 h').chk
 unfold apart
 rw [k1, k2]
 rw [Bool.and_self, Bool.not_true, Bool.false_or]
 refine congrArg not (Bool.eq_iff_iff.2 ?_)
 rw [Wb0 (mc8 k1 k2).1 (Qc9 _) (by simp [ws]), Bool.and_eq_true, Bool.and_eq_true, yb7, yb7, yb7]
 have hx := h.x; have hy := h.y; have hz := h.z
 have hx' := h'.x; have hy' := h'.y; have hz' := h'.z
 constructor
 ·rintro ⟨x, hw, hin⟩
  have g : ∀ p, p ∈ bx lo hi ∨ p ∈ bx lo' hi' → 0 < rmZ p x := fun p hp => hin p (List.mem_append_left _ (List.mem_append.2 hp))
  have q1 := g ⟨⟨1, 0, 0⟩, hi.x⟩ (.inl (by simp [bx]))
  have q2 := g ⟨⟨-1, 0, 0⟩, -lo.x⟩ (.inl (by simp [bx]))
  have q3 := g ⟨⟨0, 1, 0⟩, hi.y⟩ (.inl (by simp [bx]))
  have q4 := g ⟨⟨0, -1, 0⟩, -lo.y⟩ (.inl (by simp [bx]))
  have q5 := g ⟨⟨0, 0, 1⟩, hi.z⟩ (.inl (by simp [bx]))
  have q6 := g ⟨⟨0, 0, -1⟩, -lo.z⟩ (.inl (by simp [bx]))
  have r1 := g ⟨⟨1, 0, 0⟩, hi'.x⟩ (.inr (by simp [bx]))
  have r2 := g ⟨⟨-1, 0, 0⟩, -lo'.x⟩ (.inr (by simp [bx]))
  have r3 := g ⟨⟨0, 1, 0⟩, hi'.y⟩ (.inr (by simp [bx]))
  have r4 := g ⟨⟨0, -1, 0⟩, -lo'.y⟩ (.inr (by simp [bx]))
  have r5 := g ⟨⟨0, 0, 1⟩, hi'.z⟩ (.inr (by simp [bx]))
  have r6 := g ⟨⟨0, 0, -1⟩, -lo'.z⟩ (.inr (by simp [bx]))
  simp only [rmZ, Int.neg_mul] at q1 q2 q3 q4 q5 q6 r1 r2 r3 r4 r5 r6
  exact ⟨⟨hx, Da9 hw (p := x.px) (by omega) (by omega), Da9 hw (p := x.px) (by omega) (by omega), hx'⟩, ⟨hy, Da9 hw (p := x.py) (by omega) (by omega), Da9 hw (p := x.py) (by omega) (by omega), hy'⟩,
   ⟨hz, Da9 hw (p := x.pz) (by omega) (by omega), Da9 hw (p := x.pz) (by omega) (by omega), hz'⟩⟩
 ·rintro ⟨e1, e2, e3⟩
  obtain ⟨m1, n1, i1, j1, u1, v1, t1⟩ := uc8 e1
  obtain ⟨m2, n2, i2, j2, u2, v2, t2⟩ := uc8 e2
  obtain ⟨m3, n3, i3, j3, u3, v3, t3⟩ := uc8 e3
  obtain ⟨⟨a1, a2⟩, ⟨a3, a4⟩, ⟨a5, a6⟩, ⟨b1, b2⟩, ⟨b3, b4⟩, ⟨b5, b6⟩, c1, c2, c3⟩ := h
  refine ⟨⟨m1 + n1, m2 + n2, m3 + n3, 2⟩, by show (0 : Int) < 2; omega, fun p hp => ?_⟩
  simp only [bx, ws, List.cons_append, List.nil_append, List.mem_cons, List.not_mem_nil, or_false] at hp
  rcases hp with rfl | rfl | rfl | rfl | rfl | rfl | rfl | rfl | rfl | rfl | rfl | rfl | rfl | rfl | rfl | rfl | rfl | rfl <;> simp only [rmZ] <;> omega
theorem Rc9 {lo hi lo' hi' : V3} (h : Box lo hi) (h' : Box lo' hi') : cc5 (bx lo hi) (bx lo' hi') = (has (bx lo' hi') lo && has (bx lo' hi') hi) := by
 have k2 := (ja7 h').chk
 have i1 : inV lo = true := (bc8 lo).2 ⟨h.lx.mono (by omega), h.ly.mono (by omega), h.lz.mono (by omega)⟩
 have i2 : inV hi = true := (bc8 hi).2 ⟨h.hx.mono (by omega), h.hy.mono (by omega), h.hz.mono (by omega)⟩
 unfold cc5 has
 rw [(ja7 h).ful, k2, i1, i2]
 simp only [Bool.true_and]
 have l1 : (⟨lo.x, lo.y, lo.z, 1⟩ : Pt) ∈ bxE lo hi := by simp [bxE]
 have l2 : (⟨hi.x, hi.y, hi.z, 1⟩ : Pt) ∈ bxE lo hi := by simp [bxE]
 apply Bool.eq_iff_iff.2
 rw [List.all_eq_true, Bool.and_eq_true]
 constructor
 ·exact fun hh => ⟨hh _ ((Ua6 h).mem_iff.2 l1), hh _ ((Ua6 h).mem_iff.2 l2)⟩
 ·rintro ⟨g1, g2⟩ x hx
  have hx := (Ua6 h).mem_iff.1 hx
  have g1 := (Eb5 (oc3 h') (tb4 h l1)).1 g1
  have g2 := (Eb5 (oc3 h') (tb4 h l2)).1 g2
  refine (Eb5 (oc3 h') (tb4 h hx)).2 fun p hp => ?_
  have q1 := g1 p hp
  have q2 := g2 p hp
  obtain ⟨hw, e1, e2, e3⟩ := fb5.1 hx
  simp only [bx, List.mem_cons, List.not_mem_nil, or_false] at hp
  rcases hp with rfl | rfl | rfl | rfl | rfl | rfl <;> simp only [rmZ, hw] at q1 q2 ⊢ <;> omega
end Go.Ev.Ce
namespace Go.Ev.Ce
open Go Go.Ev Go.Ev.L Go.Proofs
theorem Sc0 {lo hi : V3} (h : Box lo hi) : cc5 (bx lo hi) (bx lo hi) = true ∧ apart (bx lo hi) (bx lo hi) = false := by
 constructor
 ·unfold cc5
  rw [(ja7 h).ful, (ja7 h).chk, Bool.true_and, Bool.true_and, List.all_eq_true]
  intro x hx
  have hx := (Ua6 h).mem_iff.1 hx
  have hi := (Rc4 h hx).inr h (by have := (fb5.1 hx).1; omega)
  exact (Eb5 (oc3 h) (tb4 h hx)).2 fun p hp => hi.h p (tb1 hp)
 ·rw [Wb2 h h, (yb7 _ _ _ _).2 ⟨h.x, h.x, h.x, h.x⟩, (yb7 _ _ _ _).2 ⟨h.y, h.y, h.y, h.y⟩, (yb7 _ _ _ _).2 ⟨h.z, h.z, h.z, h.z⟩]
  rfl
structure uc9 (x : B6) : Prop where
 p0 : 0 ≤ x.c0
 p1 : 0 ≤ x.c1
 p2 : 0 ≤ x.c2
 p3 : 0 ≤ x.c3
 p4 : 0 ≤ x.c4
 p5 : 0 ≤ x.c5
theorem crn {y : Int} (h : 0 ≤ y) : -10 ≤ W (W (Int.tmod y 20) - 10) ∧ W (W (Int.tmod y 20) - 10) ≤ 9 := by
 have h1 := Int.tmod_nonneg 20 h
 have h2 := Int.tmod_lt_of_pos y (show (0 : Int) < 20 by omega)
 rw [Ca1 (n := Int.tmod y 20) (by omega) (by omega), Ca1 (by omega) (by omega)]
 omega
theorem sde {y : Int} (h : 0 ≤ y) : 1 ≤ W (1 + W (Int.tmod y 8)) ∧ W (1 + W (Int.tmod y 8)) ≤ 8 := by
 have h1 := Int.tmod_nonneg 8 h
 have h2 := Int.tmod_lt_of_pos y (show (0 : Int) < 8 by omega)
 rw [Ca1 (n := Int.tmod y 8) (by omega) (by omega), Ca1 (by omega) (by omega)]
 omega
theorem Sc1 {a1 a2 a3 s1 s2 s3 : Int} (h1 : -10 ≤ a1 ∧ a1 ≤ 9) (h2 : -10 ≤ a2 ∧ a2 ≤ 9) (h3 : -10 ≤ a3 ∧ a3 ≤ 9) (k1 : 1 ≤ s1 ∧ s1 ≤ 8) (k2 : 1 ≤ s2 ∧ s2 ≤ 8) (k3 : 1 ≤ s3 ∧ s3 ≤ 8) : Box ⟨a1, a2, a3⟩ (G0 ⟨a1, a2, a3⟩ ⟨s1, s2, s3⟩) := by
 have w : ∀ {a s : Int}, -10 ≤ a ∧ a ≤ 9 → 1 ≤ s ∧ s ≤ 8 → W (a + s) = a + s := fun h k => Ca1 (by omega) (by omega)
 unfold G0
 simp only [w h1 k1, w h2 k2, w h3 k3]
 constructor <;> (try constructor) <;> simp only <;> omega
theorem Sc2 (lo hi : V3) : ya0 ((⟨⟨1, 0, 0⟩, (u6 lo hi).c7⟩ : Pln), [(⟨⟨-1, 0, 0⟩, (u6 lo hi).d7⟩ : Pln), ⟨⟨0, 1, 0⟩, (u6 lo hi).d8⟩, ⟨⟨0, -1, 0⟩, (u6 lo hi).d9⟩, ⟨⟨0, 0, 1⟩, (u6 lo hi).e7⟩, ⟨⟨0, 0, -1⟩, (u6 lo hi).e8⟩]) = lean (tc8 lo hi) :=
 Pc3 _ _ (by decide : 5 ≤ 1000000)
theorem Gc3 (lo hi : V3) : ya1 ((⟨⟨1, 0, 0⟩, (u6 lo hi).c7⟩ : Pln), [(⟨⟨-1, 0, 0⟩, (u6 lo hi).d7⟩ : Pln), ⟨⟨0, 1, 0⟩, (u6 lo hi).d8⟩, ⟨⟨0, -1, 0⟩, (u6 lo hi).d9⟩, ⟨⟨0, 0, 1⟩, (u6 lo hi).e7⟩, ⟨⟨0, 0, -1⟩, (u6 lo hi).e8⟩]) = true :=
 Pc4 _ _ (by decide : 5 ≤ 1000000)
theorem Zc7 (lo hi : V3) : [(⟨⟨1, 0, 0⟩, (u6 lo hi).c7⟩ : Pln), ⟨⟨-1, 0, 0⟩, (u6 lo hi).d7⟩, ⟨⟨0, 1, 0⟩, (u6 lo hi).d8⟩, ⟨⟨0, -1, 0⟩, (u6 lo hi).d9⟩, ⟨⟨0, 0, 1⟩, (u6 lo hi).e7⟩, ⟨⟨0, 0, -1⟩, (u6 lo hi).e8⟩] = tc8 lo hi := rfl
theorem oc4 (x y : B6) (hx : uc9 x) (hy : uc9 y) : Y5 x y = some (b true, []) := by
 have hA := Sc1 (crn hx.p0) (crn hx.p1) (crn hx.p2) (sde hy.p0) (sde hy.p1) (sde hy.p2)
 have hB := Sc1 (crn hx.p3) (crn hx.p4) (crn hx.p5) (sde hy.p3) (sde hy.p4) (sde hy.p5)
 unfold Y5
 simp only [Pc5, Pc6, Sc2, Gc3, Zc7]
 generalize W (W (Int.tmod x.c0 20) - 10) = a0 at *
 generalize W (W (Int.tmod x.c1 20) - 10) = a1 at *
 generalize W (W (Int.tmod x.c2 20) - 10) = a2 at *
 generalize W (W (Int.tmod x.c3 20) - 10) = a3 at *
 generalize W (W (Int.tmod x.c4 20) - 10) = a4 at *
 generalize W (W (Int.tmod x.c5 20) - 10) = a5 at *
 generalize G0 ⟨a0, a1, a2⟩ _ = ha at *
 generalize G0 ⟨a3, a4, a5⟩ _ = hb at *
 rw [dc3 hA, dc3 hB]
 have l : ∀ {lo hi : V3}, (bx lo hi).length ≤ 1000000000 := fun {lo hi} => (by decide : 6 ≤ 1000000000)
 have l' : ∀ {lo hi : V3}, (bx lo hi).length ≤ 100000000 := fun {lo hi} => (by decide : 6 ≤ 100000000)
 have e1 := Wb2 hA hB
 have e2 := Rc9 hA hB
 have e3 := Sc0 hA
 simp only at e1 e2
 simp only [yc6 l, yc7 l, Pa5 l, Pa6 l, yc9 l' l', zc0 l' l', nc0 l l, nc1 l l, cd1 l, cd2 l, Zc6 hA, pd6 hA, Rc8 hA, e1, e2, e3.1, e3.2, beq_self_eq_true, Bool.and_true, Bool.not_true, ma7, Ic5,
  show (((8 : Nat) : Int) != 8) = false from rfl, show (((6 : Nat) : Int) != 6) = false from rfl]
 cases y9 a0 ha.x a3 hb.x <;> cases y9 a1 ha.y a4 hb.y <;> cases y9 a2 ha.z a5 hb.z <;> cases has (bx ⟨a3, a4, a5⟩ hb) ⟨a0, a1, a2⟩ <;> cases has (bx ⟨a3, a4, a5⟩ hb) ha <;> rfl
theorem Zc8 (x y : B6) (hx : uc9 x) (hy : uc9 y) : ga5 x y = true := by unfold ga5; rw [oc4 x y hx hy]; rfl
theorem Zc9 (x y : B6) (hx : uc9 x) (hy : uc9 y) : ga6 x y = true := by unfold ga6; rw [oc4 x y hx hy]; rfl
end Go.Ev.Ce
namespace Go.Ev.Ce
open Go Go.Ev Go.Ev.L Go.ChangeShapes Go.RowKit
theorem Ac2 (g : Nat → Int) (h : ∀ c, c < 6 → 0 ≤ g c ∧ g c ≤ 255) : ∃ a, Rdg (Ha4 tS) (.agg (Ua5 .u8 6 g)) a ∧ uc9 a :=
 ⟨⟨g 0, g 1, g 2, g 3, g 4, g 5⟩, ⟨rfl, rfl⟩, (h 0 (by omega)).1, (h 1 (by omega)).1, (h 2 (by omega)).1, (h 3 (by omega)).1, (h 4 (by omega)).1, (h 5 (by omega)).1⟩
theorem Ac3 {D : Type} {enc : TypeId × Value → D} {P : Program} {w : World} {base : Nat} {spare : Nat → Bool} {held : Bool} {ρ : Rho} {H : List a8} {F : Fz} {t e f : TypeId} {d : Nat} {v : Value} {dd : DataW D} {pp : List MemPlace} {bs : Nat} {r : Reach}
  (ht : P.underlying t = some (.array 2 f)) (he : P.underlying e = some (.int .u8)) (hts : P.cellTypes P.depth t = some [e, e, e, e, e, e]) (hf : Q5 P d t = some (na6 .u8 6)) (hes : P.cellsOf t = 6)
  (hok : Value.okWide P w r bs t v) (h : DataW.Trod enc P w base spare held t v dd pp) : ∃ g : Nat → Int, (∀ c, c < 6 → 0 ≤ g c ∧ g c ≤ 255) ∧ R3 ρ H F w (.agg (Ua5 .u8 6 g)) v := by
 obtain ⟨g, hv⟩ := Zc4 (ρ := ρ) (H := H) (F := F) (by simp [agT, ht]) hf hes hok h
 refine ⟨g, fun c hc => ?_, hv⟩
 obtain ⟨vs, e0, hl, hr⟩ := ja0 (.val hv)
 subst e0
 have hlen : vs.size = 6 := by rw [← hl]; simp [Ua5]
 have hc' : c < vs.size := by omega
 have hg : (Ua5 .u8 6 g)[c]? = some (.v (.int .u8 (g c))) := by
  unfold Ua5
  rw [List.getElem?_map, List.getElem?_range hc]
  rfl
 have hx := Q6 (.val (.cell (hr c _ _ hg (Array.getElem?_eq_getElem hc'))))
 unfold Value.okWide at hok
 rw [ht] at hok
 obtain ⟨cs, e1, hsz, ts, h1, h2, h3⟩ := hok
 injection e1 with e1
 subst e1
 rw [hts] at h1
 injection h1 with h1
 subst h1
 obtain ⟨u, hu, hcell⟩ := h3 c _ (Array.getElem?_eq_getElem hc')
 rw [hx] at hcell
 have hue : u = e := by
  have : c = 0 ∨ c = 1 ∨ c = 2 ∨ c = 3 ∨ c = 4 ∨ c = 5 := by omega
  rcases this with rfl | rfl | rfl | rfl | rfl | rfl <;> simpa using hu.symm
 subst hue
 simp only [Cell.okWide, Cell.ok, he] at hcell
 have := hcell.2
 simp only [IntKind.has, IntKind.min, IntKind.max, IntKind.bits, IntKind.signed] at this
 simp at this
 omega
end Go.Ev.Ce
