/- Own work: a part of the proof. -/
import Derived.Test.YtlccibobknidjaaGreatEvHC
import Derived.Test.YtlccibobknidjaaGreatEvE9
import Derived.Test.YtlccibobknidjaaGreatEvFz
import Derived.ChangeStays
import Derived.ChangeSame
import Derived.OpenShut
import Derived.RowKit
import Derived.Test.YtlccibobknidjaaGreatEvSp7
set_option linter.unusedVariables false
set_option linter.unusedSimpArgs false
set_option linter.unnecessarySimpa false
set_option linter.unusedSectionVars false
namespace Go.Ev.Ce
open Go Go.Ev Go.Ev.L Go.Proofs
theorem Id0 {α : Type} {l : List α} {f g : α → Bool} (h : ∀ x ∈ l, f x = g x) : l.any f = l.any g := by
 induction l with
 | nil => rfl
 | cons a l ih => rw [List.any_cons, List.any_cons, h a List.mem_cons_self, ih fun x hx => h x (List.mem_cons_of_mem _ hx)]
theorem Id1 {α : Type} {l : List α} {f g : α → Bool} (h : ∀ x ∈ l, f x = g x) : l.all f = l.all g := by
 induction l with
 | nil => rfl
 | cons a l ih => rw [List.all_cons, List.all_cons, h a List.mem_cons_self, ih fun x hx => h x (List.mem_cons_of_mem _ hx)]
theorem Wd5 (l : List Int) : Rd (one r1P) (Ba9 l) (fun p => okp p = true) := by
 unfold Ba9
 simp only [l8, l6]
 obtain ⟨v1, j1, e1, a1, b1, c1, d1⟩ := X7 8 l 0 (by omega) (by omega) (by omega) (by omega)
 rw [e1]
 simp only
 obtain ⟨v2, j2, e2, a2, b2, c2, d2⟩ := X7 17 l j1 (by omega) (by omega) (by omega) (by omega)
 rw [e2]
 simp only
 obtain ⟨x1, x2, x3, j3, e3, _, _, _, c3, d3⟩ := Cb5 8 l j2 (by omega) (by omega) (by omega) (by omega)
 rw [e3]
 simp only
 obtain ⟨y1, y2, y3, j4, e4, _, _, _, c4, d4⟩ := Cb5 8 l j3 (by omega) (by omega) (by omega) (by omega)
 rw [e4]
 simp only
 obtain ⟨z1, z2, z3, j5, e5, _, _, _, c5, d5⟩ := Cb5 8 l j4 (by omega) (by omega) (by omega) (by omega)
 rw [e5]
 simp only [nb9, Da6, Rd6 _ (show (0 : Int) < 3 by omega) (by omega), l6]
 simp only [Nat.beq_refl, Bool.and_true, n5]
 have w2 : W (v2 - 8) = v2 - 8 := Y0 (by omega) (by omega)
 have w1 : W (1 - W (2 * Int.tmod v1 2)) = 1 ∨ W (1 - W (2 * Int.tmod v1 2)) = -1 := by
  have h := Int.tmod_nonneg 2 a1
  have h2 := Int.tmod_lt_of_pos v1 (show (0 : Int) < 2 by omega)
  rw [Y0 (n := 2 * Int.tmod v1 2) (by omega) (by omega), Y0 (by omega) (by omega)]
  omega
 rw [w2]
 generalize W (1 - W (2 * Int.tmod v1 2)) = s at *
 have ax : ∀ {a c d : Int}, (a = s ∧ c = 0 ∧ d = 0) ∨ (a = 0 ∧ c = s ∧ d = 0) ∨ (a = 0 ∧ c = 0 ∧ d = s) → okp ⟨⟨a, c, d⟩, v2 - 8⟩ = true := fun h => by
  unfold okp
  simp only [List.all_cons, List.all_nil, Bool.and_true, Bool.and_eq_true, Wa2, beq_iff_eq, Sm]
  rcases h with ⟨rfl, rfl, rfl⟩ | ⟨rfl, rfl, rfl⟩ | ⟨rfl, rfl, rfl⟩ <;> rcases w1 with rfl | rfl <;> exact ⟨by omega, by decide, by omega⟩
 have r1 : Rd (one r1P) (some ((.agg [(i 0), (i s), (i 0), (i (v2 - 8))]), [])) (fun p => okp p = true) := ⟨_, ⟨⟨0, s, 0⟩, v2 - 8⟩, rfl, rfl, ax (.inr (.inl ⟨rfl, rfl, rfl⟩))⟩
 have r2 : Rd (one r1P) (some ((.agg [(i 0), (i 0), (i s), (i (v2 - 8))]), [])) (fun p => okp p = true) := ⟨_, ⟨⟨0, 0, s⟩, v2 - 8⟩, rfl, rfl, ax (.inr (.inr ⟨rfl, rfl, rfl⟩))⟩
 have r3 : Rd (one r1P) (some ((.agg [(i s), (i 0), (i 0), (i (v2 - 8))]), [])) (fun p => okp p = true) := ⟨_, ⟨⟨s, 0, 0⟩, v2 - 8⟩, rfl, rfl, ax (.inl ⟨rfl, rfl, rfl⟩)⟩
 refine Rd.sl (fun _ => Rd.sl (fun h => ?_) fun _ => ?_) (fun _ => ?_)
 ·exact ⟨_, (fa1 ⟨x1, x2, x3⟩ ⟨y1, y2, y3⟩ ⟨z1, z2, z3⟩).1, rfl, rfl, (Wa8 h).2.ok⟩
 ·exact Rd.sl (fun _ => r1) fun _ => Rd.sl (fun _ => r2) fun _ => r3
 ·exact Rd.sl (fun _ => r1) fun _ => Rd.sl (fun _ => r2) fun _ => r3
theorem Ad8 (l : List Int) : okp (Ca0 l) = true := (Wd5 l).p
theorem Nc7 : g3 ⟨1, 0, 0⟩ = 1 ∧ g3 ⟨-1, 0, 0⟩ = 1 ∧ g3 ⟨0, 1, 0⟩ = 1 ∧ g3 ⟨0, -1, 0⟩ = 1 ∧ g3 ⟨0, 0, 1⟩ = 1 ∧ g3 ⟨0, 0, -1⟩ = 1 := by decide
structure Ia7 (c : List Pln) : Prop where
 l : c.length ≤ 47
 v : ∀ p ∈ c, okp p = true
 f : Xc4 (c ++ ws)
theorem Ia7.chk {c : List Pln} (h : Ia7 c) : (chk c == 0) = true := by
 rw [beq_iff_eq, Cb0]
 exact ⟨by have := h.l; omega, h.v⟩
theorem Ia7.bds {c : List Pln} (h : Ia7 c) : Bds (c ++ ws) := (Na0 h.chk).1
theorem Ia7.ful {c : List Pln} (h : Ia7 c) : ful c = true := by
 unfold Ce.ful
 rw [h.chk, (ob2 h.bds (ub0 c) (by simp [ws])).2 h.f]
 rfl
theorem Wd6 {lo hi : V3} (h1 : Sm 20 lo.x ∧ Sm 20 lo.y ∧ Sm 20 lo.z) (h2 : Sm 20 hi.x ∧ Sm 20 hi.y ∧ Sm 20 hi.z) (h3 : lo.x < hi.x ∧ lo.y < hi.y ∧ lo.z < hi.z) : Ia7 (xc2 lo hi) := by
 obtain ⟨⟨a1, a2⟩, ⟨a3, a4⟩, a5, a6⟩ := h1
 obtain ⟨⟨b1, b2⟩, ⟨b3, b4⟩, b5, b6⟩ := h2
 obtain ⟨c1, c2, c3⟩ := h3
 have w : ∀ {x : Int}, -20 ≤ x → x ≤ 20 → W (0 - x) = -x := fun h h' => by rw [Y0 (by omega) (by omega)]; omega
 have e : xc2 lo hi = [⟨⟨1, 0, 0⟩, hi.x⟩, ⟨⟨-1, 0, 0⟩, -lo.x⟩, ⟨⟨0, 1, 0⟩, hi.y⟩, ⟨⟨0, -1, 0⟩, -lo.y⟩, ⟨⟨0, 0, 1⟩, hi.z⟩, ⟨⟨0, 0, -1⟩, -lo.z⟩] := by
  unfold xc2
  rw [w a1 a2, w a3 a4, w a5 a6]
 rw [e]
 refine ⟨by simp, fun p hp => ?_, ⟨⟨lo.x + hi.x, lo.y + hi.y, lo.z + hi.z, 2⟩, by show (0 : Int) < 2; omega, fun p hp => ?_⟩⟩
 ·simp only [List.mem_cons, List.not_mem_nil, or_false] at hp
  unfold okp
  simp only [List.all_cons, List.all_nil, Bool.and_true, Bool.and_eq_true, Wa2, beq_iff_eq, Sm]
  rcases hp with rfl | rfl | rfl | rfl | rfl | rfl <;> exact ⟨by simp, by first | exact Nc7.1 | exact Nc7.2.1 | exact Nc7.2.2.1 | exact Nc7.2.2.2.1 | exact Nc7.2.2.2.2.1 | exact Nc7.2.2.2.2.2, by simp only; omega⟩
 ·simp only [ws, List.cons_append, List.nil_append, List.mem_cons, List.not_mem_nil, or_false] at hp
  rcases hp with rfl | rfl | rfl | rfl | rfl | rfl | rfl | rfl | rfl | rfl | rfl | rfl <;> simp only [rmZ] <;> omega
theorem Id2 {l : List V3} (h : ec9 l = 0) : l.all inV = true ∧ nf0 l = true := by
 unfold ec9 at h
 split at h
 ·omega
 ·split at h
  ·rename_i h2
   split at h
   ·rename_i h3; exact ⟨h2, h3⟩
   ·omega
  ·omega
theorem Id3 {l : List V3} (h : ec9 l = 0) (h8 : l.length ≤ 8) : Ia7 (F0 l) := by
 obtain ⟨h1, h2⟩ := Id2 h
 exact ⟨by have := ue3 h1 h2 h8; omega, fun p hp => (Wd4 hp).ok, he3 h1 h2⟩
theorem Id4 (x : List Int) : Rd (one (r1L tP)) (Ca4 x) Ia7 := by
 obtain ⟨v1, j1, e1, a1, b1, c1, d1⟩ := X7 4 x 0 (by omega) (by omega) (by omega) (by omega)
 obtain ⟨w1, w2, w3, j2, e2, p1, p2, p3, c2, d2⟩ := Cb5 6 x j1 (by omega) (by omega) (by omega) (by omega)
 obtain ⟨v3, j3, e3, a3, b3, c3, d3⟩ := X7 6 x j2 (by omega) (by omega) (by omega) (by omega)
 obtain ⟨v4, j4, e4, a4, b4, c4, d4⟩ := X7 6 x j3 (by omega) (by omega) (by omega) (by omega)
 obtain ⟨v5, j5, e5, a5, b5, c5, d5⟩ := X7 6 x j4 (by omega) (by omega) (by omega) (by omega)
 have hin : inB (if 7 < (x.length : Int) then 7 else (x.length : Int)) (x.length + 1) = true := by
  rw [Rc0]
  apply decide_eq_true
  split <;> omega
 have hok : ∀ n m, okL tI n (fun k => (fun k => tI.row (gL tI x k)) (m + k)) = true := fun n m => pb9 tI (f := fun k => gL tI x (m + k)) fun _ _ => rfl
 unfold Ca4
 simp only [l8, l6, K0, e1, e2, e3, e4, e5, Qd3, Qd4, hin, hok, Na8, Vc6, jd8, Nat.beq_refl, Bool.and_true, n5]
 generalize hL : lsL tI _ _ = L
 have hg : Ia7 (xc2 ⟨w1, w2, w3⟩ ⟨W (W (w1 + 1) + v3), W (W (w2 + 1) + v4), W (W (w3 + 1) + v5)⟩) := by
  obtain ⟨q1, q2⟩ := p1; obtain ⟨q3, q4⟩ := p2; obtain ⟨q5, q6⟩ := p3
  have i1 : W (W (w1 + 1) + v3) = w1 + 1 + v3 := by rw [Y0 (n := w1 + 1) (by omega) (by omega), Y0 (by omega) (by omega)]
  have i2 : W (W (w2 + 1) + v4) = w2 + 1 + v4 := by rw [Y0 (n := w2 + 1) (by omega) (by omega), Y0 (by omega) (by omega)]
  have i3 : W (W (w3 + 1) + v5) = w3 + 1 + v5 := by rw [Y0 (n := w3 + 1) (by omega) (by omega), Y0 (by omega) (by omega)]
  rw [i1, i2, i3]
  refine Wd6 ⟨⟨?_, ?_⟩, ⟨?_, ?_⟩, ?_, ?_⟩ ⟨⟨?_, ?_⟩, ⟨?_, ?_⟩, ?_, ?_⟩ ⟨?_, ?_, ?_⟩ <;> simp only <;> omega
 have hB6 : (xc2 ⟨w1, w2, w3⟩ ⟨W (W (w1 + 1) + v3), W (W (w2 + 1) + v4), W (W (w3 + 1) + v5)⟩).length = 6 := rfl
 generalize hB : xc2 _ _ = B at *
 have hl6 : len (bL tP B) = 6 := by rw [K1, hB6]
 have ea : app [] (bL tP B) = bL tP B := rfl
 have es : ∀ q : Pln, slR tP (bL tP (B ++ [q])) 0 (0 + 6 + 1) = B ++ [q] := fun q => by
  have := zb0 tP (B ++ [q])
  rw [List.length_append, hB6] at this
  exact this
 have eo : ∀ q : Pln, okS tP (bL tP (B ++ [q])) 0 (0 + 6 + 1) = true := fun q => by
  have := zb1 tP (B ++ [q])
  rw [List.length_append, hB6] at this
  exact this
 have hlen : ∀ q : Pln, (B ++ [q]).length ≤ 1000000000 := fun q => by rw [List.length_append, hB6]; exact (by decide : 6 + 1 ≤ 1000000000)
 have gF : ∀ q : Pln, Ba7 (B ++ [q]) = true := fun q => yd8 (hlen q)
 have pF : ∀ q : Pln, Ka2 (B ++ [q]) = ful (B ++ [q]) := fun q => de8 (hlen q)
 have q1 : Nat.ble ((0 + 6) * 32) room = true := X5 (by omega)
 have q2 : Nat.ble (((0 + 6) + 1) * 32) room = true := X5 (by omega)
 have q3 : Nat.beq (0 + 6) 6 = true := rfl
 have hp := jd9 L
 have gf : ua7 (L7 L) = true := zd7 _ (by omega)
 simp only [hl6, ea, Cb6, es, eo, gF, pF, q1, q2, q3, Bool.and_self, gf, Vd7 (L7 L) (by omega), n5, show Nat.beq 6 0 = false from rfl, ca8]
 have box : Rd (one (r1L tP)) (some (eL tP B, [])) Ia7 := Vc9 hg
 have fcs : (fc1 (L7 L)).2 == 0 → Rd (one (r1L tP)) (some (eL tP (fc1 (L7 L)).1, [])) Ia7 := fun h => Vc9 (by
  unfold fc1 at h ⊢
  by_cases h0 : ec9 (L7 L) = 0
  ·rw [if_pos h0]
   exact Id3 h0 hp.2
  ·rw [if_neg h0] at h
   exact absurd (by simpa using h) h0)
 have hcut : ful (B ++ [Ca0 L]) = true → Ia7 (B ++ [Ca0 L]) := fun hf =>
  ⟨by rw [List.length_append, hB6]; exact (by decide : 6 + 1 ≤ 47), fun p h => by
   rcases List.mem_append.1 h with h | h
   ·exact hg.v p h
   ·rw [List.mem_singleton.1 h]; exact Ad8 L, (ld6 hf).2.2⟩
 exact Rd.sl (fun _ => Rd.sl (fun hf => Vc8 (by rw [List.length_append, hB6]; rfl) rfl (hcut hf)) fun _ => Rd.sl (fun _ => Rd.sl (fun h => fcs h) fun _ => box) fun _ => box) fun _ => Rd.sl (fun _ => Rd.sl (fun h => fcs h) fun _ => box) fun _ => box
theorem ld8 (x : List Int) : Ia7 (bb7 x) := (Id4 x).p
theorem ue4 (p : Pln) (N : Int) (v x : Pt) : rmZ p ⟨N * v.px + x.px, N * v.py + x.py, N * v.pz + x.pz, N * v.pw + x.pw⟩ = N * rmZ p v + rmZ p x := by unfold rmZ; grind
theorem Wd7 {r : List Pln} (hb : Bdd r) (hB : Xc4 r) (p : Pln) (l : List Pln) (hl : ∀ q, q ∈ l ↔ q ∈ r ∨ q = p) : Xc4 l ↔ ∃ v, Cn r v ∧ 0 < rmZ p v := by
 constructor
 ·rintro ⟨x, hw, hx⟩
  by_cases h : ∃ v, Cn r v ∧ 0 < rmZ p v
  ·exact h
  ·have hi : Inr r x := ⟨hw, fun q hq => Int.le_of_lt (hx q ((hl q).2 (.inl hq)))⟩
   have := Aa8 hb (h := fa8 p) (fun v hv => by
    rw [za4]
    have : ¬ 0 < rmZ p v := fun h' => h ⟨v, hv, h'⟩
    omega) hi
   rw [za4] at this
   have := hx p ((hl p).2 (.inr rfl))
   omega
 ·rintro ⟨v, hv, hp⟩
  obtain ⟨x, hw, hx⟩ := hB
  have hN : 0 < ((rmZ p x).natAbs : Int) + 1 := by omega
  refine ⟨⟨(((rmZ p x).natAbs : Int) + 1) * v.px + x.px, (((rmZ p x).natAbs : Int) + 1) * v.py + x.py, (((rmZ p x).natAbs : Int) + 1) * v.pz + x.pz, (((rmZ p x).natAbs : Int) + 1) * v.pw + x.pw⟩, ?_, fun q hq => ?_⟩
  ·have := Int.mul_pos hN hv.w
   show 0 < _ + _
   omega
  ·rw [ue4]
   rcases (hl q).1 hq with h | rfl
   ·have h1 := Int.mul_nonneg (Int.le_of_lt hN) (hv.h q h)
    have h2 := hx q h
    omega
   ·have h1 : ((rmZ q x).natAbs : Int) + 1 ≤ (((rmZ q x).natAbs : Int) + 1) * rmZ q v := by
     have := Int.mul_le_mul_of_nonneg_left (show (1 : Int) ≤ rmZ q v by omega) (Int.le_of_lt hN)
     rw [Int.mul_one] at this
     exact this
    omega
noncomputable def cin (c : List Pln) (p : Pln) : Bool := (pts c).any fun x => decide (rm p x > 0)
noncomputable def cout (c : List Pln) (p : Pln) : Bool := (pts c).any fun x => decide (rm p x < 0)
theorem Ia7.pts {c : List Pln} (h : Ia7 c) : pts c = cor (c ++ ws) := by unfold Ce.pts; rw [if_pos h.chk]
theorem Ia7.cin {c : List Pln} (h : Ia7 c) {p : Pln} (hp : okp p = true) : cin c p = true ↔ ∃ v, Cn (c ++ ws) v ∧ 0 < rmZ p v := by
 unfold Ce.cin
 rw [h.pts]
 exact Xc6 h.bds (La2 hp)
theorem Ia7.cout {c : List Pln} (h : Ia7 c) {p : Pln} (hp : okp p = true) : cout c p = true ↔ ∃ v, Cn (c ++ ws) v ∧ rmZ p v < 0 := by
 have e : Ce.cout c p = Ce.cin c (fa8 p) := by
  unfold Ce.cout Ce.cin
  rw [h.pts]
  have : ∀ x ∈ cor (c ++ ws), decide (rm p x < 0) = decide (rm (fa8 p) x > 0) := fun x hx => by
   rw [Xc5 (La2 hp) (hb8 h.bds x hx), Xc5 (La2 (db0 hp)) (hb8 h.bds x hx), za4]
   exact decide_eq_decide.2 (by omega)
  rw [Id0 this]
 rw [e, h.cin (db0 hp)]
 constructor <;> rintro ⟨v, h1, h2⟩ <;> refine ⟨v, h1, ?_⟩ <;> rw [za4] at * <;> omega
theorem Ia7.okp_add {c : List Pln} (h : Ia7 c) {p : Pln} (hp : okp p = true) : (Ce.chk (c ++ [p]) == 0) = true := by
 rw [beq_iff_eq, Cb0]
 refine ⟨by have := h.l; rw [List.length_append, List.length_singleton]; omega, fun q hq => ?_⟩
 rcases List.mem_append.1 hq with hq | hq
 ·exact h.v q hq
 ·rw [List.mem_singleton.1 hq]; exact hp
theorem Xc7 {c : List Pln} (h : Ia7 c) {p : Pln} (hp : okp p = true) : ful (c ++ [p]) = cin c p := by
 have hk := h.okp_add hp
 apply Bool.eq_iff_iff.2
 rw [h.cin hp]
 unfold ful
 rw [hk, Bool.true_and, ob2 (Na0 hk).1 (ub0 _) (by simp [ws]), Wd7 (ub0 c) h.f p]
 intro q
 simp only [List.mem_append, List.mem_singleton]
 constructor
 ·rintro ((h | h) | h)
  ·exact .inl (.inl h)
  ·exact .inr h
  ·exact .inl (.inr h)
 ·rintro ((h | h) | h)
  ·exact .inl (.inl h)
  ·exact .inr h
  ·exact .inl (.inr h)
theorem fc2 {c : List Pln} (h : Ia7 c) {p : Pln} (hp : okp p = true) : cin c (fa8 p) = cout c p := by
 apply Bool.eq_iff_iff.2
 rw [h.cin (db0 hp), h.cout hp]
 constructor <;> rintro ⟨v, h1, h2⟩ <;> refine ⟨v, h1, ?_⟩ <;> rw [za4] at * <;> omega
theorem ue5 {c : List Pln} (h : Ia7 c) {p : Pln} (hp : okp p = true) : (cin c p || cout c p) = true := by
 cases h1 : cin c p with
 | true => rfl
 | false =>
  cases h2 : cout c p with
  | true => rfl
  | false =>
   exfalso
   have n1 : ¬ ∃ v, Cn (c ++ ws) v ∧ 0 < rmZ p v := fun h' => by rw [(h.cin hp).2 h'] at h1; cases h1
   have n2 : ¬ ∃ v, Cn (c ++ ws) v ∧ rmZ p v < 0 := fun h' => by rw [(h.cout hp).2 h'] at h2; cases h2
   have hz : ∀ v, Cn (c ++ ws) v → rmZ p v = 0 := fun v hv => by
    have : ¬ 0 < rmZ p v := fun h' => n1 ⟨v, hv, h'⟩
    have : ¬ rmZ p v < 0 := fun h' => n2 ⟨v, hv, h'⟩
    omega
   refine Ud7 (ub0 c) h.f (h := p) (Ad7 hp) fun x hx => ?_
   have a1 := Aa8 (ub0 c) (h := p) (fun v hv => by rw [hz v hv]; decide) hx
   have a2 := Aa8 (ub0 c) (h := fa8 p) (fun v hv => by rw [za4, hz v hv]; decide) hx
   rw [za4] at a2
   omega
theorem Id5 {c : List Pln} (h : Ia7 c) {p : Pln} (hp : okp p = true) : apart (c ++ [p]) (c ++ [fa8 p]) = true := by
 unfold apart
 have k1 := h.okp_add hp
 have k2 := h.okp_add (db0 hp)
 rw [k1, k2]
 cases hb : xc3 (c ++ [p] ++ (c ++ [fa8 p]) ++ ws) with
 | false => rfl
 | true =>
  exfalso
  obtain ⟨x, hw, hx⟩ := (ob2 (Ac5 k1 k2).1 (ub0 _) (by simp [ws])).1 hb
  have h1 := hx p (by simp)
  have h2 := hx (fa8 p) (by simp)
  rw [za4] at h2
  omega
theorem Wd8 {c : List Pln} (h : Ia7 c) {p : Pln} (hp : okp p = true) (hi : cin c p = true) : Ac6 (c ++ [p]) c = true ∧ apart (c ++ [p]) c = false := by
 have k1 := h.okp_add hp
 have hf : ful (c ++ [p]) = true := by rw [Xc7 h hp, hi]
 have hb := (Na0 k1).1
 constructor
 ·unfold Ac6
  rw [hf, h.chk, Bool.true_and, Bool.true_and, List.all_eq_true]
  intro x hx
  have hx' : x ∈ cor (c ++ [p] ++ ws) := by
   unfold Ce.pts at hx
   rw [if_pos k1] at hx
   exact hx
  have hcn := ud1 hb x hx'
  rw [Ad6 (fun q hq => La2 (h.v q hq)) (hb8 hb x hx')]
  exact fun q hq => hcn.h q (by simp [hq])
 ·unfold apart
  rw [k1, h.chk]
  have hB := (ld6 hf).2.2
  have : Xc4 (c ++ [p] ++ c ++ ws) := by
   obtain ⟨x, hw, hx⟩ := hB
   refine ⟨x, hw, fun q hq => hx q ?_⟩
   simp only [List.mem_append, List.mem_singleton] at hq ⊢
   rcases hq with ((hq | hq) | hq) | hq
   ·exact .inl (.inl hq)
   ·exact .inl (.inr hq)
   ·exact .inl (.inl hq)
   ·exact .inr hq
  rw [(ob2 (Ac5 k1 h.chk).1 (ub0 _) (by simp [ws])).2 this]
  rfl
theorem ld9 {c : List Pln} (h : Ia7 c) {p : Pln} (hp : okp p = true) : Ac6 c (c ++ [p]) = !cout c p := by
 have k1 := h.okp_add hp
 unfold Ac6 cout
 rw [h.ful, k1, Bool.true_and, Bool.true_and, h.pts, List.not_any_eq_all_not]
 apply Id1
 intro x hx
 have hok := hb8 h.bds x hx
 have hcn := ud1 h.bds x hx
 have hbd := La2 hp
 apply Bool.eq_iff_iff.2
 rw [Ad6 (fun q hq => La2 (((Cb0).1 (beq_iff_eq.1 k1)).2 q hq)) hok, Xc5 hbd hok]
 simp only [Bool.not_eq_true', decide_eq_false_iff_not, Int.not_lt]
 constructor
 ·exact fun hh => hh p (by simp)
 ·intro hh q hq
  rcases List.mem_append.1 hq with hq | hq
  ·exact hcn.h q (List.mem_append_left _ hq)
  ·rw [List.mem_singleton.1 hq]; exact hh
end Go.Ev.Ce
section
namespace Go.Ev.Ce
open Go Go.Ev Go.Ev.L Go.Proofs
set_option maxRecDepth 100000
noncomputable def Xc8 : List (Nat × Sum) := []
theorem Hc9 : l5 prog G Xc8 := trivial
noncomputable def Db8 (x : V3) (y : V3) : V3 := (⟨(W (x.x - y.x)), (W (x.y - y.y)), (W (x.z - y.z))⟩ : V3)
noncomputable def ic5 : Sum := ja9 (V6 tV) (V6 tV) (fun x y => .ret ((one r1V).enc (Db8 x y), []))
theorem Xc9 : j7 prog G 116 ic5 := ra5 (bd Je2 Hc9) fun x y => s9 (by kernel_rfl)
noncomputable def Ic0 : List (Nat × Sum) := [(116, ic5)]
theorem Bc5 : l5 prog G Ic0 := ⟨Xc9, trivial⟩
noncomputable def Wa9 (x : Pln) : Pln := let t1 := (Db8 (⟨0, 0, 0⟩ : V3) x.n); (⟨t1, (W (0 - x.b))⟩ : Pln)
noncomputable def Xb9 : Sum := ia6 (V6 tP) (fun x => .ret ((one r1P).enc (Wa9 x), []))
theorem Ic1 : j7 prog G 36 Xb9 := Fb1 (bd b36 Bc5) fun x => s9 (by kernel_rfl)
noncomputable def ib0 : List (Nat × Sum) := [(13, Db4), (30, zc1), (35, Ob2), (36, Xb9), (18, qa2), (37, qb4), (20, Da4), (31, tb4), (33, lb1)]
theorem Ob7 : l5 prog G ib0 := ⟨mc6, id7, hc7, Ic1, ua1, Ab4, Ga9, Lb1, Cb9, trivial⟩
structure I4 where
 bs5 : Bool
 le9 : List Pln
 ns8 : Nat
 ns9 : Nat
 Yc1 : List Pt
 ie0 : Int
 f9 : Int
 c7 : Int
 g7 : Int
 d9 : Int
 eh1 : List (List b7)
 eh2 : List (List b7)
structure s8 where
 db3 : Bool
 N9 : Bool
 Ic3 : Int
noncomputable def Ib7 (p : I4) (s : s8) : St := ⟨(ra 5 ((b p.bs5) :: ((eL tP p.le9) :: ((.ptr 0 0 0 0) :: ((.sl 1 0 p.ns8 0) :: ((.sl 2 0 p.ns9 0) :: ((b s.db3) :: ((b s.N9) :: (ra 21 ((eL tX p.Yc1) :: ((i p.ie0) :: ((i s.Ic3) :: (ra 85 []))))))))))))), [⟨0, 4, [[(i p.f9), (i p.c7), (i p.g7), (i p.d9)]], true, false, 0⟩, ⟨50, 4, p.eh1, true, false, 0⟩, ⟨50, 4, p.eh2, true, false, 0⟩]⟩
noncomputable def X4 {α : Type} (k : s8 → α) (e : Nat → α) (z : α) (p : I4) (s : s8) : α := let t1 := (Ka1 (⟨(⟨p.f9, p.c7, p.g7⟩ : V3), p.d9⟩ : Pln) (gL tX p.Yc1 s.Ic3.toNat)); (sl (decide (s.Ic3 < p.ie0)) (sl (inB s.Ic3 (List.length p.Yc1)) (sl s.db3 (sl s.N9 (k ⟨true, true, (W (s.Ic3 + 1))⟩) (k ⟨true, (decide (t1 < 0)), (W (s.Ic3 + 1))⟩)) (sl s.N9 (k ⟨(decide (t1 > 0)), true, (W (s.Ic3 + 1))⟩) (k ⟨(decide (t1 > 0)), (decide (t1 < 0)), (W (s.Ic3 + 1))⟩))) z) (e 1))
noncomputable def A9 (p : I4) (s : s8) : Stp s8 := X4 .next .exit .fail p s
noncomputable def Ca6 : Lo I4 s8 := ⟨En ib0, 0, pf6, [1, 1, 1, 1, 1, 1, 0, 1, 4, 4], [5, 6, 7, 8, 9, 10, 11, 33, 34, 35], .p, [⟨(ru2 5 ((.s (.o .bool)) :: ((.s (.c 4 (nL tP))) :: ((.s (.o (.ptr 0 0 0 0))) :: ((.s (.o (.sl 1 0 (some 0) none))) :: ((.s (.o (.sl 2 0 (some 0) none))) :: ((.s (.o .bool)) :: ((.s (.o .bool)) :: (ru2 21 ((.s (.c 4 (nL tX))) :: ((.s (.o (.int .i64))) :: ((.s (.o (.int .i64))) :: (ru2 85 []))))))))))))), [⟨0, 4, true, (some [[(.o (.int .i64)), (.o (.int .i64)), (.o (.int .i64)), (.o (.int .i64))]])⟩, ⟨50, 4, true, none⟩, ⟨50, 4, true, none⟩], fun a H => (⟨(toB (slT a 5)), (rL tP (slT a 6)), (slN (slT a 8)), (slN (slT a 9)), (rL tX (slT a 33)), (toI (slT a 34)), (toI (slT (rwT (elT H 0) 0) 0)), (toI (slT (rwT (elT H 0) 0) 1)), (toI (slT (rwT (elT H 0) 0) 2)), (toI (slT (rwT (elT H 0) 0) 3)), (elT H 1), (elT H 2)⟩, ⟨(toB (slT a 10)), (toB (slT a 11)), (toI (slT a 35))⟩)⟩], A9, [(some 0, fun p s => ⟨(ra 5 ((b p.bs5) :: ((eL tP p.le9) :: ((.ptr 0 0 0 0) :: ((.sl 1 0 p.ns8 0) :: ((.sl 2 0 p.ns9 0) :: ((b s.db3) :: ((b s.N9) :: (ra 21 ((eL tX p.Yc1) :: ((i p.ie0) :: ((i s.Ic3) :: ((b (decide (s.Ic3 < p.ie0))) :: (ra 84 [])))))))))))))), [⟨0, 4, [[(i p.f9), (i p.c7), (i p.g7), (i p.d9)]], true, false, 0⟩, ⟨50, 4, p.eh1, true, false, 0⟩, ⟨50, 4, p.eh2, true, false, 0⟩]⟩)], Ib7⟩
theorem Ib8 : Ca6.Ok := Lo.ok [] (by kernel_rfl) .nil rfl (.cons (fun a H => by kernel_rfl) .nil) fun p s => (.of @X4 (fun F _ _ _ _ _ => by unfold X4; (repeat' apply n7 (f := F)) <;> rfl) (by kernel_rfl))
noncomputable def ma4 (x : List Int) (y : List Int) : Option (b7 × List b8) := let t1 := Ia4; let t2 := (bb7 (rt tI x)); let t3 := (Ca0 (rt tI y)); let t4 := (Wa9 t3); let t5 := (V0 (rt tP t2)); let t6 := (lp (A9 (⟨t1, (rt tP t2), 1, 1, (rt tX t5), (↑(List.length t5) : Int), t3.n.x, t3.n.y, t3.n.z, t3.b, [[(i t3.n.x), (i t3.n.y), (i t3.n.z), (i t3.b)]], [[(i t4.n.x), (i t4.n.y), (i t4.n.z), (i t4.b)]]⟩ : I4)) (⟨false, false, 0⟩ : s8)); let t7 := (R2 (slR tP [[(i t3.n.x), (i t3.n.y), (i t3.n.z), (i t3.b)]] 0 1)); let t8 := (R2 (slR tP [[(i t4.n.x), (i t4.n.y), (i t4.n.z), (i t4.b)]] 0 1)); let t9 := (J1 (slR tP [[(i t3.n.x), (i t3.n.y), (i t3.n.z), (i t3.b)]] 0 1) (slR tP [[(i t4.n.x), (i t4.n.y), (i t4.n.z), (i t4.b)]] 0 1)); let t10 := (F8 (slR tP [[(i t3.n.x), (i t3.n.y), (i t3.n.z), (i t3.b)]] 0 1) (rt tP (rt tP t2))); let t11 := (J1 (slR tP [[(i t3.n.x), (i t3.n.y), (i t3.n.z), (i t3.b)]] 0 1) (rt tP (rt tP t2))); let t12 := (F8 (slR tP [[(i t4.n.x), (i t4.n.y), (i t4.n.z), (i t4.b)]] 0 1) (rt tP (rt tP t2))); let t13 := (J1 (slR tP [[(i t4.n.x), (i t4.n.y), (i t4.n.z), (i t4.b)]] 0 1) (rt tP (rt tP t2))); let t14 := (F8 (rt tP (rt tP t2)) (slR tP [[(i t3.n.x), (i t3.n.y), (i t3.n.z), (i t3.b)]] 0 1)); let t15 := (F8 (rt tP (rt tP t2)) (slR tP [[(i t4.n.x), (i t4.n.y), (i t4.n.z), (i t4.b)]] 0 1)); let a0 := (o7 (fun k => (tP).row (gL tP t2 k)) (List.range (List.length t2))); let t16 := (lp (A9 (⟨t1, (rt tP t2), 1, ((0 + (len a0)) + 1), (rt tX t5), (↑(List.length t5) : Int), t3.n.x, t3.n.y, t3.n.z, t3.b, [[(i t3.n.x), (i t3.n.y), (i t3.n.z), (i t3.b)]], (app (app [] a0) [[(i t4.n.x), (i t4.n.y), (i t4.n.z), (i t4.b)]])⟩ : I4)) (⟨false, false, 0⟩ : s8)); let t17 := (R2 (slR tP (app (app [] a0) [[(i t4.n.x), (i t4.n.y), (i t4.n.z), (i t4.b)]]) 0 ((0 + (len a0)) + 1))); let t18 := (J1 (slR tP [[(i t3.n.x), (i t3.n.y), (i t3.n.z), (i t3.b)]] 0 1) (slR tP (app (app [] a0) [[(i t4.n.x), (i t4.n.y), (i t4.n.z), (i t4.b)]]) 0 ((0 + (len a0)) + 1))); let t19 := (F8 (slR tP (app (app [] a0) [[(i t4.n.x), (i t4.n.y), (i t4.n.z), (i t4.b)]]) 0 ((0 + (len a0)) + 1)) (rt tP (rt tP t2))); let t20 := (J1 (slR tP (app (app [] a0) [[(i t4.n.x), (i t4.n.y), (i t4.n.z), (i t4.b)]]) 0 ((0 + (len a0)) + 1)) (rt tP (rt tP t2))); let t21 := (F8 (rt tP (rt tP t2)) (slR tP (app (app [] a0) [[(i t4.n.x), (i t4.n.y), (i t4.n.z), (i t4.b)]]) 0 ((0 + (len a0)) + 1))); let t22 := (lp (A9 (⟨t1, (rt tP t2), ((0 + (len a0)) + 1), 1, (rt tX t5), (↑(List.length t5) : Int), t3.n.x, t3.n.y, t3.n.z, t3.b, (app (app [] a0) [[(i t3.n.x), (i t3.n.y), (i t3.n.z), (i t3.b)]]), [[(i t4.n.x), (i t4.n.y), (i t4.n.z), (i t4.b)]]⟩ : I4)) (⟨false, false, 0⟩ : s8)); let t23 := (R2 (slR tP (app (app [] a0) [[(i t3.n.x), (i t3.n.y), (i t3.n.z), (i t3.b)]]) 0 ((0 + (len a0)) + 1))); let t24 := (J1 (slR tP (app (app [] a0) [[(i t3.n.x), (i t3.n.y), (i t3.n.z), (i t3.b)]]) 0 ((0 + (len a0)) + 1)) (slR tP [[(i t4.n.x), (i t4.n.y), (i t4.n.z), (i t4.b)]] 0 1)); let t25 := (F8 (slR tP (app (app [] a0) [[(i t3.n.x), (i t3.n.y), (i t3.n.z), (i t3.b)]]) 0 ((0 + (len a0)) + 1)) (rt tP (rt tP t2))); let t26 := (J1 (slR tP (app (app [] a0) [[(i t3.n.x), (i t3.n.y), (i t3.n.z), (i t3.b)]]) 0 ((0 + (len a0)) + 1)) (rt tP (rt tP t2))); let t27 := (F8 (rt tP (rt tP t2)) (slR tP (app (app [] a0) [[(i t3.n.x), (i t3.n.y), (i t3.n.z), (i t3.b)]]) 0 ((0 + (len a0)) + 1))); let t28 := (lp (A9 (⟨t1, (rt tP t2), ((0 + (len a0)) + 1), ((0 + (len a0)) + 1), (rt tX t5), (↑(List.length t5) : Int), t3.n.x, t3.n.y, t3.n.z, t3.b, (app (app [] a0) [[(i t3.n.x), (i t3.n.y), (i t3.n.z), (i t3.b)]]), (app (app [] a0) [[(i t4.n.x), (i t4.n.y), (i t4.n.z), (i t4.b)]])⟩ : I4)) (⟨false, false, 0⟩ : s8)); let t29 := (J1 (slR tP (app (app [] a0) [[(i t3.n.x), (i t3.n.y), (i t3.n.z), (i t3.b)]]) 0 ((0 + (len a0)) + 1)) (slR tP (app (app [] a0) [[(i t4.n.x), (i t4.n.y), (i t4.n.z), (i t4.b)]]) 0 ((0 + (len a0)) + 1))); let a1 := ((b (t21 == (!t16.2.db3))), []); let a2 := ((b (t15 == (!t22.2.db3))), []); let a3 := ((b (t21 == (!t28.2.db3))), []); let a4 := ((b (t15 == (!t6.2.db3))), []); let a5 := (Nat.beq (0 + (len a0)) (len (app [] a0)) && Nat.ble (((0 + (len a0)) + 1) * 32) room); let a6 := ((cnE tP t2) && ((cnE tX t5) && true)); let a7 := (Nat.beq 0 0 && Nat.ble ((0 + (len a0)) * 32) room); (sl Ia5 (sl (okE tI x) (sl (Ob5 (rt tI x)) (sl (okE tI y) (sl (bb5 (rt tI y)) (sl (Nat.beq (len a0) 0) (sl (Nat.beq (len a0) 0) (sl (okE tP t2) (sl (I5 (rt tP t2)) (sl a6 (sl (Nat.beq t6.1 1) (sl (okS tP [[(i t3.n.x), (i t3.n.y), (i t3.n.z), (i t3.b)]] 0 1) (sl (F9 (slR tP [[(i t3.n.x), (i t3.n.y), (i t3.n.z), (i t3.b)]] 0 1)) (sl (!(t7 == t6.2.db3)) (some ((b false), [])) (sl (okS tP [[(i t4.n.x), (i t4.n.y), (i t4.n.z), (i t4.b)]] 0 1) (sl (F9 (slR tP [[(i t4.n.x), (i t4.n.y), (i t4.n.z), (i t4.b)]] 0 1)) (sl (!(t8 == t6.2.N9)) (some ((b false), [])) (sl (!t6.2.db3) (sl (!t6.2.N9) (some ((b false), [])) (sl (okS tP [[(i t3.n.x), (i t3.n.y), (i t3.n.z), (i t3.b)]] 0 1) (sl (okS tP [[(i t4.n.x), (i t4.n.y), (i t4.n.z), (i t4.b)]] 0 1) (sl (f8 (slR tP [[(i t3.n.x), (i t3.n.y), (i t3.n.z), (i t3.b)]] 0 1) (slR tP [[(i t4.n.x), (i t4.n.y), (i t4.n.z), (i t4.b)]] 0 1)) (sl (!t9) (some ((b false), [])) (sl t6.2.db3 (sl (okS tP [[(i t3.n.x), (i t3.n.y), (i t3.n.z), (i t3.b)]] 0 1) (sl (okE tP (rt tP t2)) (sl (b9 (slR tP [[(i t3.n.x), (i t3.n.y), (i t3.n.z), (i t3.b)]] 0 1) (rt tP (rt tP t2))) (sl (!t10) (some ((b false), [])) (sl (okS tP [[(i t3.n.x), (i t3.n.y), (i t3.n.z), (i t3.b)]] 0 1) (sl (okE tP (rt tP t2)) (sl (f8 (slR tP [[(i t3.n.x), (i t3.n.y), (i t3.n.z), (i t3.b)]] 0 1) (rt tP (rt tP t2))) (sl t11 (some ((b false), [])) (sl t6.2.N9 (sl (okS tP [[(i t4.n.x), (i t4.n.y), (i t4.n.z), (i t4.b)]] 0 1) (sl (okE tP (rt tP t2)) (sl (b9 (slR tP [[(i t4.n.x), (i t4.n.y), (i t4.n.z), (i t4.b)]] 0 1) (rt tP (rt tP t2))) (sl (!t12) (some ((b false), [])) (sl (okS tP [[(i t4.n.x), (i t4.n.y), (i t4.n.z), (i t4.b)]] 0 1) (sl (okE tP (rt tP t2)) (sl (f8 (slR tP [[(i t4.n.x), (i t4.n.y), (i t4.n.z), (i t4.b)]] 0 1) (rt tP (rt tP t2))) (sl t13 (some ((b false), [])) (sl t1 (sl (okE tP (rt tP t2)) (sl (okS tP [[(i t3.n.x), (i t3.n.y), (i t3.n.z), (i t3.b)]] 0 1) (sl (b9 (rt tP (rt tP t2)) (slR tP [[(i t3.n.x), (i t3.n.y), (i t3.n.z), (i t3.b)]] 0 1)) (sl (t14 == (!t6.2.N9)) (sl (okE tP (rt tP t2)) (sl (okS tP [[(i t4.n.x), (i t4.n.y), (i t4.n.z), (i t4.b)]] 0 1) (sl (b9 (rt tP (rt tP t2)) (slR tP [[(i t4.n.x), (i t4.n.y), (i t4.n.z), (i t4.b)]] 0 1)) (some a4) none) none) none) (some ((b false), []))) none) none) none) (some ((b false), [])))) none) none) none)) none) none) none) (sl t1 (sl (okE tP (rt tP t2)) (sl (okS tP [[(i t3.n.x), (i t3.n.y), (i t3.n.z), (i t3.b)]] 0 1) (sl (b9 (rt tP (rt tP t2)) (slR tP [[(i t3.n.x), (i t3.n.y), (i t3.n.z), (i t3.b)]] 0 1)) (sl (t14 == (!t6.2.N9)) (sl (okE tP (rt tP t2)) (sl (okS tP [[(i t4.n.x), (i t4.n.y), (i t4.n.z), (i t4.b)]] 0 1) (sl (b9 (rt tP (rt tP t2)) (slR tP [[(i t4.n.x), (i t4.n.y), (i t4.n.z), (i t4.b)]] 0 1)) (some a4) none) none) none) (some ((b false), []))) none) none) none) (some ((b false), []))))) none) none) none)) none) none) none) (sl t6.2.N9 (sl (okS tP [[(i t4.n.x), (i t4.n.y), (i t4.n.z), (i t4.b)]] 0 1) (sl (okE tP (rt tP t2)) (sl (b9 (slR tP [[(i t4.n.x), (i t4.n.y), (i t4.n.z), (i t4.b)]] 0 1) (rt tP (rt tP t2))) (sl (!t12) (some ((b false), [])) (sl (okS tP [[(i t4.n.x), (i t4.n.y), (i t4.n.z), (i t4.b)]] 0 1) (sl (okE tP (rt tP t2)) (sl (f8 (slR tP [[(i t4.n.x), (i t4.n.y), (i t4.n.z), (i t4.b)]] 0 1) (rt tP (rt tP t2))) (sl t13 (some ((b false), [])) (sl t1 (sl (okE tP (rt tP t2)) (sl (okS tP [[(i t3.n.x), (i t3.n.y), (i t3.n.z), (i t3.b)]] 0 1) (sl (b9 (rt tP (rt tP t2)) (slR tP [[(i t3.n.x), (i t3.n.y), (i t3.n.z), (i t3.b)]] 0 1)) (sl (t14 == (!t6.2.N9)) (sl (okE tP (rt tP t2)) (sl (okS tP [[(i t4.n.x), (i t4.n.y), (i t4.n.z), (i t4.b)]] 0 1) (sl (b9 (rt tP (rt tP t2)) (slR tP [[(i t4.n.x), (i t4.n.y), (i t4.n.z), (i t4.b)]] 0 1)) (some a4) none) none) none) (some ((b false), []))) none) none) none) (some ((b false), [])))) none) none) none)) none) none) none) (sl t1 (sl (okE tP (rt tP t2)) (sl (okS tP [[(i t3.n.x), (i t3.n.y), (i t3.n.z), (i t3.b)]] 0 1) (sl (b9 (rt tP (rt tP t2)) (slR tP [[(i t3.n.x), (i t3.n.y), (i t3.n.z), (i t3.b)]] 0 1)) (sl (t14 == (!t6.2.N9)) (sl (okE tP (rt tP t2)) (sl (okS tP [[(i t4.n.x), (i t4.n.y), (i t4.n.z), (i t4.b)]] 0 1) (sl (b9 (rt tP (rt tP t2)) (slR tP [[(i t4.n.x), (i t4.n.y), (i t4.n.z), (i t4.b)]] 0 1)) (some a4) none) none) none) (some ((b false), []))) none) none) none) (some ((b false), [])))))) none) none) none)) (sl (okS tP [[(i t3.n.x), (i t3.n.y), (i t3.n.z), (i t3.b)]] 0 1) (sl (okS tP [[(i t4.n.x), (i t4.n.y), (i t4.n.z), (i t4.b)]] 0 1) (sl (f8 (slR tP [[(i t3.n.x), (i t3.n.y), (i t3.n.z), (i t3.b)]] 0 1) (slR tP [[(i t4.n.x), (i t4.n.y), (i t4.n.z), (i t4.b)]] 0 1)) (sl (!t9) (some ((b false), [])) (sl t6.2.db3 (sl (okS tP [[(i t3.n.x), (i t3.n.y), (i t3.n.z), (i t3.b)]] 0 1) (sl (okE tP (rt tP t2)) (sl (b9 (slR tP [[(i t3.n.x), (i t3.n.y), (i t3.n.z), (i t3.b)]] 0 1) (rt tP (rt tP t2))) (sl (!t10) (some ((b false), [])) (sl (okS tP [[(i t3.n.x), (i t3.n.y), (i t3.n.z), (i t3.b)]] 0 1) (sl (okE tP (rt tP t2)) (sl (f8 (slR tP [[(i t3.n.x), (i t3.n.y), (i t3.n.z), (i t3.b)]] 0 1) (rt tP (rt tP t2))) (sl t11 (some ((b false), [])) (sl t6.2.N9 (sl (okS tP [[(i t4.n.x), (i t4.n.y), (i t4.n.z), (i t4.b)]] 0 1) (sl (okE tP (rt tP t2)) (sl (b9 (slR tP [[(i t4.n.x), (i t4.n.y), (i t4.n.z), (i t4.b)]] 0 1) (rt tP (rt tP t2))) (sl (!t12) (some ((b false), [])) (sl (okS tP [[(i t4.n.x), (i t4.n.y), (i t4.n.z), (i t4.b)]] 0 1) (sl (okE tP (rt tP t2)) (sl (f8 (slR tP [[(i t4.n.x), (i t4.n.y), (i t4.n.z), (i t4.b)]] 0 1) (rt tP (rt tP t2))) (sl t13 (some ((b false), [])) (sl t1 (sl (okE tP (rt tP t2)) (sl (okS tP [[(i t3.n.x), (i t3.n.y), (i t3.n.z), (i t3.b)]] 0 1) (sl (b9 (rt tP (rt tP t2)) (slR tP [[(i t3.n.x), (i t3.n.y), (i t3.n.z), (i t3.b)]] 0 1)) (sl (t14 == (!t6.2.N9)) (sl (okE tP (rt tP t2)) (sl (okS tP [[(i t4.n.x), (i t4.n.y), (i t4.n.z), (i t4.b)]] 0 1) (sl (b9 (rt tP (rt tP t2)) (slR tP [[(i t4.n.x), (i t4.n.y), (i t4.n.z), (i t4.b)]] 0 1)) (some a4) none) none) none) (some ((b false), []))) none) none) none) (some ((b false), [])))) none) none) none)) none) none) none) (sl t1 (sl (okE tP (rt tP t2)) (sl (okS tP [[(i t3.n.x), (i t3.n.y), (i t3.n.z), (i t3.b)]] 0 1) (sl (b9 (rt tP (rt tP t2)) (slR tP [[(i t3.n.x), (i t3.n.y), (i t3.n.z), (i t3.b)]] 0 1)) (sl (t14 == (!t6.2.N9)) (sl (okE tP (rt tP t2)) (sl (okS tP [[(i t4.n.x), (i t4.n.y), (i t4.n.z), (i t4.b)]] 0 1) (sl (b9 (rt tP (rt tP t2)) (slR tP [[(i t4.n.x), (i t4.n.y), (i t4.n.z), (i t4.b)]] 0 1)) (some a4) none) none) none) (some ((b false), []))) none) none) none) (some ((b false), []))))) none) none) none)) none) none) none) (sl t6.2.N9 (sl (okS tP [[(i t4.n.x), (i t4.n.y), (i t4.n.z), (i t4.b)]] 0 1) (sl (okE tP (rt tP t2)) (sl (b9 (slR tP [[(i t4.n.x), (i t4.n.y), (i t4.n.z), (i t4.b)]] 0 1) (rt tP (rt tP t2))) (sl (!t12) (some ((b false), [])) (sl (okS tP [[(i t4.n.x), (i t4.n.y), (i t4.n.z), (i t4.b)]] 0 1) (sl (okE tP (rt tP t2)) (sl (f8 (slR tP [[(i t4.n.x), (i t4.n.y), (i t4.n.z), (i t4.b)]] 0 1) (rt tP (rt tP t2))) (sl t13 (some ((b false), [])) (sl t1 (sl (okE tP (rt tP t2)) (sl (okS tP [[(i t3.n.x), (i t3.n.y), (i t3.n.z), (i t3.b)]] 0 1) (sl (b9 (rt tP (rt tP t2)) (slR tP [[(i t3.n.x), (i t3.n.y), (i t3.n.z), (i t3.b)]] 0 1)) (sl (t14 == (!t6.2.N9)) (sl (okE tP (rt tP t2)) (sl (okS tP [[(i t4.n.x), (i t4.n.y), (i t4.n.z), (i t4.b)]] 0 1) (sl (b9 (rt tP (rt tP t2)) (slR tP [[(i t4.n.x), (i t4.n.y), (i t4.n.z), (i t4.b)]] 0 1)) (some a4) none) none) none) (some ((b false), []))) none) none) none) (some ((b false), [])))) none) none) none)) none) none) none) (sl t1 (sl (okE tP (rt tP t2)) (sl (okS tP [[(i t3.n.x), (i t3.n.y), (i t3.n.z), (i t3.b)]] 0 1) (sl (b9 (rt tP (rt tP t2)) (slR tP [[(i t3.n.x), (i t3.n.y), (i t3.n.z), (i t3.b)]] 0 1)) (sl (t14 == (!t6.2.N9)) (sl (okE tP (rt tP t2)) (sl (okS tP [[(i t4.n.x), (i t4.n.y), (i t4.n.z), (i t4.b)]] 0 1) (sl (b9 (rt tP (rt tP t2)) (slR tP [[(i t4.n.x), (i t4.n.y), (i t4.n.z), (i t4.b)]] 0 1)) (some a4) none) none) none) (some ((b false), []))) none) none) none) (some ((b false), [])))))) none) none) none))) none) none)) none) none) none) none) none) none) (sl a7 (sl a5 (sl (okE tP t2) (sl (I5 (rt tP t2)) (sl a6 (sl (Nat.beq t16.1 1) (sl (okS tP [[(i t3.n.x), (i t3.n.y), (i t3.n.z), (i t3.b)]] 0 1) (sl (F9 (slR tP [[(i t3.n.x), (i t3.n.y), (i t3.n.z), (i t3.b)]] 0 1)) (sl (!(t7 == t16.2.db3)) (some ((b false), [])) (sl (okS tP (app (app [] a0) [[(i t4.n.x), (i t4.n.y), (i t4.n.z), (i t4.b)]]) 0 ((0 + (len a0)) + 1)) (sl (F9 (slR tP (app (app [] a0) [[(i t4.n.x), (i t4.n.y), (i t4.n.z), (i t4.b)]]) 0 ((0 + (len a0)) + 1))) (sl (!(t17 == t16.2.N9)) (some ((b false), [])) (sl (!t16.2.db3) (sl (!t16.2.N9) (some ((b false), [])) (sl (okS tP [[(i t3.n.x), (i t3.n.y), (i t3.n.z), (i t3.b)]] 0 1) (sl (okS tP (app (app [] a0) [[(i t4.n.x), (i t4.n.y), (i t4.n.z), (i t4.b)]]) 0 ((0 + (len a0)) + 1)) (sl (f8 (slR tP [[(i t3.n.x), (i t3.n.y), (i t3.n.z), (i t3.b)]] 0 1) (slR tP (app (app [] a0) [[(i t4.n.x), (i t4.n.y), (i t4.n.z), (i t4.b)]]) 0 ((0 + (len a0)) + 1))) (sl (!t18) (some ((b false), [])) (sl t16.2.db3 (sl (okS tP [[(i t3.n.x), (i t3.n.y), (i t3.n.z), (i t3.b)]] 0 1) (sl (okE tP (rt tP t2)) (sl (b9 (slR tP [[(i t3.n.x), (i t3.n.y), (i t3.n.z), (i t3.b)]] 0 1) (rt tP (rt tP t2))) (sl (!t10) (some ((b false), [])) (sl (okS tP [[(i t3.n.x), (i t3.n.y), (i t3.n.z), (i t3.b)]] 0 1) (sl (okE tP (rt tP t2)) (sl (f8 (slR tP [[(i t3.n.x), (i t3.n.y), (i t3.n.z), (i t3.b)]] 0 1) (rt tP (rt tP t2))) (sl t11 (some ((b false), [])) (sl t16.2.N9 (sl (okS tP (app (app [] a0) [[(i t4.n.x), (i t4.n.y), (i t4.n.z), (i t4.b)]]) 0 ((0 + (len a0)) + 1)) (sl (okE tP (rt tP t2)) (sl (b9 (slR tP (app (app [] a0) [[(i t4.n.x), (i t4.n.y), (i t4.n.z), (i t4.b)]]) 0 ((0 + (len a0)) + 1)) (rt tP (rt tP t2))) (sl (!t19) (some ((b false), [])) (sl (okS tP (app (app [] a0) [[(i t4.n.x), (i t4.n.y), (i t4.n.z), (i t4.b)]]) 0 ((0 + (len a0)) + 1)) (sl (okE tP (rt tP t2)) (sl (f8 (slR tP (app (app [] a0) [[(i t4.n.x), (i t4.n.y), (i t4.n.z), (i t4.b)]]) 0 ((0 + (len a0)) + 1)) (rt tP (rt tP t2))) (sl t20 (some ((b false), [])) (sl t1 (sl (okE tP (rt tP t2)) (sl (okS tP [[(i t3.n.x), (i t3.n.y), (i t3.n.z), (i t3.b)]] 0 1) (sl (b9 (rt tP (rt tP t2)) (slR tP [[(i t3.n.x), (i t3.n.y), (i t3.n.z), (i t3.b)]] 0 1)) (sl (t14 == (!t16.2.N9)) (sl (okE tP (rt tP t2)) (sl (okS tP (app (app [] a0) [[(i t4.n.x), (i t4.n.y), (i t4.n.z), (i t4.b)]]) 0 ((0 + (len a0)) + 1)) (sl (b9 (rt tP (rt tP t2)) (slR tP (app (app [] a0) [[(i t4.n.x), (i t4.n.y), (i t4.n.z), (i t4.b)]]) 0 ((0 + (len a0)) + 1))) (some a1) none) none) none) (some ((b false), []))) none) none) none) (some ((b false), [])))) none) none) none)) none) none) none) (sl t1 (sl (okE tP (rt tP t2)) (sl (okS tP [[(i t3.n.x), (i t3.n.y), (i t3.n.z), (i t3.b)]] 0 1) (sl (b9 (rt tP (rt tP t2)) (slR tP [[(i t3.n.x), (i t3.n.y), (i t3.n.z), (i t3.b)]] 0 1)) (sl (t14 == (!t16.2.N9)) (sl (okE tP (rt tP t2)) (sl (okS tP (app (app [] a0) [[(i t4.n.x), (i t4.n.y), (i t4.n.z), (i t4.b)]]) 0 ((0 + (len a0)) + 1)) (sl (b9 (rt tP (rt tP t2)) (slR tP (app (app [] a0) [[(i t4.n.x), (i t4.n.y), (i t4.n.z), (i t4.b)]]) 0 ((0 + (len a0)) + 1))) (some a1) none) none) none) (some ((b false), []))) none) none) none) (some ((b false), []))))) none) none) none)) none) none) none) (sl t16.2.N9 (sl (okS tP (app (app [] a0) [[(i t4.n.x), (i t4.n.y), (i t4.n.z), (i t4.b)]]) 0 ((0 + (len a0)) + 1)) (sl (okE tP (rt tP t2)) (sl (b9 (slR tP (app (app [] a0) [[(i t4.n.x), (i t4.n.y), (i t4.n.z), (i t4.b)]]) 0 ((0 + (len a0)) + 1)) (rt tP (rt tP t2))) (sl (!t19) (some ((b false), [])) (sl (okS tP (app (app [] a0) [[(i t4.n.x), (i t4.n.y), (i t4.n.z), (i t4.b)]]) 0 ((0 + (len a0)) + 1)) (sl (okE tP (rt tP t2)) (sl (f8 (slR tP (app (app [] a0) [[(i t4.n.x), (i t4.n.y), (i t4.n.z), (i t4.b)]]) 0 ((0 + (len a0)) + 1)) (rt tP (rt tP t2))) (sl t20 (some ((b false), [])) (sl t1 (sl (okE tP (rt tP t2)) (sl (okS tP [[(i t3.n.x), (i t3.n.y), (i t3.n.z), (i t3.b)]] 0 1) (sl (b9 (rt tP (rt tP t2)) (slR tP [[(i t3.n.x), (i t3.n.y), (i t3.n.z), (i t3.b)]] 0 1)) (sl (t14 == (!t16.2.N9)) (sl (okE tP (rt tP t2)) (sl (okS tP (app (app [] a0) [[(i t4.n.x), (i t4.n.y), (i t4.n.z), (i t4.b)]]) 0 ((0 + (len a0)) + 1)) (sl (b9 (rt tP (rt tP t2)) (slR tP (app (app [] a0) [[(i t4.n.x), (i t4.n.y), (i t4.n.z), (i t4.b)]]) 0 ((0 + (len a0)) + 1))) (some a1) none) none) none) (some ((b false), []))) none) none) none) (some ((b false), [])))) none) none) none)) none) none) none) (sl t1 (sl (okE tP (rt tP t2)) (sl (okS tP [[(i t3.n.x), (i t3.n.y), (i t3.n.z), (i t3.b)]] 0 1) (sl (b9 (rt tP (rt tP t2)) (slR tP [[(i t3.n.x), (i t3.n.y), (i t3.n.z), (i t3.b)]] 0 1)) (sl (t14 == (!t16.2.N9)) (sl (okE tP (rt tP t2)) (sl (okS tP (app (app [] a0) [[(i t4.n.x), (i t4.n.y), (i t4.n.z), (i t4.b)]]) 0 ((0 + (len a0)) + 1)) (sl (b9 (rt tP (rt tP t2)) (slR tP (app (app [] a0) [[(i t4.n.x), (i t4.n.y), (i t4.n.z), (i t4.b)]]) 0 ((0 + (len a0)) + 1))) (some a1) none) none) none) (some ((b false), []))) none) none) none) (some ((b false), [])))))) none) none) none)) (sl (okS tP [[(i t3.n.x), (i t3.n.y), (i t3.n.z), (i t3.b)]] 0 1) (sl (okS tP (app (app [] a0) [[(i t4.n.x), (i t4.n.y), (i t4.n.z), (i t4.b)]]) 0 ((0 + (len a0)) + 1)) (sl (f8 (slR tP [[(i t3.n.x), (i t3.n.y), (i t3.n.z), (i t3.b)]] 0 1) (slR tP (app (app [] a0) [[(i t4.n.x), (i t4.n.y), (i t4.n.z), (i t4.b)]]) 0 ((0 + (len a0)) + 1))) (sl (!t18) (some ((b false), [])) (sl t16.2.db3 (sl (okS tP [[(i t3.n.x), (i t3.n.y), (i t3.n.z), (i t3.b)]] 0 1) (sl (okE tP (rt tP t2)) (sl (b9 (slR tP [[(i t3.n.x), (i t3.n.y), (i t3.n.z), (i t3.b)]] 0 1) (rt tP (rt tP t2))) (sl (!t10) (some ((b false), [])) (sl (okS tP [[(i t3.n.x), (i t3.n.y), (i t3.n.z), (i t3.b)]] 0 1) (sl (okE tP (rt tP t2)) (sl (f8 (slR tP [[(i t3.n.x), (i t3.n.y), (i t3.n.z), (i t3.b)]] 0 1) (rt tP (rt tP t2))) (sl t11 (some ((b false), [])) (sl t16.2.N9 (sl (okS tP (app (app [] a0) [[(i t4.n.x), (i t4.n.y), (i t4.n.z), (i t4.b)]]) 0 ((0 + (len a0)) + 1)) (sl (okE tP (rt tP t2)) (sl (b9 (slR tP (app (app [] a0) [[(i t4.n.x), (i t4.n.y), (i t4.n.z), (i t4.b)]]) 0 ((0 + (len a0)) + 1)) (rt tP (rt tP t2))) (sl (!t19) (some ((b false), [])) (sl (okS tP (app (app [] a0) [[(i t4.n.x), (i t4.n.y), (i t4.n.z), (i t4.b)]]) 0 ((0 + (len a0)) + 1)) (sl (okE tP (rt tP t2)) (sl (f8 (slR tP (app (app [] a0) [[(i t4.n.x), (i t4.n.y), (i t4.n.z), (i t4.b)]]) 0 ((0 + (len a0)) + 1)) (rt tP (rt tP t2))) (sl t20 (some ((b false), [])) (sl t1 (sl (okE tP (rt tP t2)) (sl (okS tP [[(i t3.n.x), (i t3.n.y), (i t3.n.z), (i t3.b)]] 0 1) (sl (b9 (rt tP (rt tP t2)) (slR tP [[(i t3.n.x), (i t3.n.y), (i t3.n.z), (i t3.b)]] 0 1)) (sl (t14 == (!t16.2.N9)) (sl (okE tP (rt tP t2)) (sl (okS tP (app (app [] a0) [[(i t4.n.x), (i t4.n.y), (i t4.n.z), (i t4.b)]]) 0 ((0 + (len a0)) + 1)) (sl (b9 (rt tP (rt tP t2)) (slR tP (app (app [] a0) [[(i t4.n.x), (i t4.n.y), (i t4.n.z), (i t4.b)]]) 0 ((0 + (len a0)) + 1))) (some a1) none) none) none) (some ((b false), []))) none) none) none) (some ((b false), [])))) none) none) none)) none) none) none) (sl t1 (sl (okE tP (rt tP t2)) (sl (okS tP [[(i t3.n.x), (i t3.n.y), (i t3.n.z), (i t3.b)]] 0 1) (sl (b9 (rt tP (rt tP t2)) (slR tP [[(i t3.n.x), (i t3.n.y), (i t3.n.z), (i t3.b)]] 0 1)) (sl (t14 == (!t16.2.N9)) (sl (okE tP (rt tP t2)) (sl (okS tP (app (app [] a0) [[(i t4.n.x), (i t4.n.y), (i t4.n.z), (i t4.b)]]) 0 ((0 + (len a0)) + 1)) (sl (b9 (rt tP (rt tP t2)) (slR tP (app (app [] a0) [[(i t4.n.x), (i t4.n.y), (i t4.n.z), (i t4.b)]]) 0 ((0 + (len a0)) + 1))) (some a1) none) none) none) (some ((b false), []))) none) none) none) (some ((b false), []))))) none) none) none)) none) none) none) (sl t16.2.N9 (sl (okS tP (app (app [] a0) [[(i t4.n.x), (i t4.n.y), (i t4.n.z), (i t4.b)]]) 0 ((0 + (len a0)) + 1)) (sl (okE tP (rt tP t2)) (sl (b9 (slR tP (app (app [] a0) [[(i t4.n.x), (i t4.n.y), (i t4.n.z), (i t4.b)]]) 0 ((0 + (len a0)) + 1)) (rt tP (rt tP t2))) (sl (!t19) (some ((b false), [])) (sl (okS tP (app (app [] a0) [[(i t4.n.x), (i t4.n.y), (i t4.n.z), (i t4.b)]]) 0 ((0 + (len a0)) + 1)) (sl (okE tP (rt tP t2)) (sl (f8 (slR tP (app (app [] a0) [[(i t4.n.x), (i t4.n.y), (i t4.n.z), (i t4.b)]]) 0 ((0 + (len a0)) + 1)) (rt tP (rt tP t2))) (sl t20 (some ((b false), [])) (sl t1 (sl (okE tP (rt tP t2)) (sl (okS tP [[(i t3.n.x), (i t3.n.y), (i t3.n.z), (i t3.b)]] 0 1) (sl (b9 (rt tP (rt tP t2)) (slR tP [[(i t3.n.x), (i t3.n.y), (i t3.n.z), (i t3.b)]] 0 1)) (sl (t14 == (!t16.2.N9)) (sl (okE tP (rt tP t2)) (sl (okS tP (app (app [] a0) [[(i t4.n.x), (i t4.n.y), (i t4.n.z), (i t4.b)]]) 0 ((0 + (len a0)) + 1)) (sl (b9 (rt tP (rt tP t2)) (slR tP (app (app [] a0) [[(i t4.n.x), (i t4.n.y), (i t4.n.z), (i t4.b)]]) 0 ((0 + (len a0)) + 1))) (some a1) none) none) none) (some ((b false), []))) none) none) none) (some ((b false), [])))) none) none) none)) none) none) none) (sl t1 (sl (okE tP (rt tP t2)) (sl (okS tP [[(i t3.n.x), (i t3.n.y), (i t3.n.z), (i t3.b)]] 0 1) (sl (b9 (rt tP (rt tP t2)) (slR tP [[(i t3.n.x), (i t3.n.y), (i t3.n.z), (i t3.b)]] 0 1)) (sl (t14 == (!t16.2.N9)) (sl (okE tP (rt tP t2)) (sl (okS tP (app (app [] a0) [[(i t4.n.x), (i t4.n.y), (i t4.n.z), (i t4.b)]]) 0 ((0 + (len a0)) + 1)) (sl (b9 (rt tP (rt tP t2)) (slR tP (app (app [] a0) [[(i t4.n.x), (i t4.n.y), (i t4.n.z), (i t4.b)]]) 0 ((0 + (len a0)) + 1))) (some a1) none) none) none) (some ((b false), []))) none) none) none) (some ((b false), [])))))) none) none) none))) none) none)) none) none) none) none) none) none) none) none)) (sl a7 (sl a5 (sl (Nat.beq (len a0) 0) (sl (okE tP t2) (sl (I5 (rt tP t2)) (sl a6 (sl (Nat.beq t22.1 1) (sl (okS tP (app (app [] a0) [[(i t3.n.x), (i t3.n.y), (i t3.n.z), (i t3.b)]]) 0 ((0 + (len a0)) + 1)) (sl (F9 (slR tP (app (app [] a0) [[(i t3.n.x), (i t3.n.y), (i t3.n.z), (i t3.b)]]) 0 ((0 + (len a0)) + 1))) (sl (!(t23 == t22.2.db3)) (some ((b false), [])) (sl (okS tP [[(i t4.n.x), (i t4.n.y), (i t4.n.z), (i t4.b)]] 0 1) (sl (F9 (slR tP [[(i t4.n.x), (i t4.n.y), (i t4.n.z), (i t4.b)]] 0 1)) (sl (!(t8 == t22.2.N9)) (some ((b false), [])) (sl (!t22.2.db3) (sl (!t22.2.N9) (some ((b false), [])) (sl (okS tP (app (app [] a0) [[(i t3.n.x), (i t3.n.y), (i t3.n.z), (i t3.b)]]) 0 ((0 + (len a0)) + 1)) (sl (okS tP [[(i t4.n.x), (i t4.n.y), (i t4.n.z), (i t4.b)]] 0 1) (sl (f8 (slR tP (app (app [] a0) [[(i t3.n.x), (i t3.n.y), (i t3.n.z), (i t3.b)]]) 0 ((0 + (len a0)) + 1)) (slR tP [[(i t4.n.x), (i t4.n.y), (i t4.n.z), (i t4.b)]] 0 1)) (sl (!t24) (some ((b false), [])) (sl t22.2.db3 (sl (okS tP (app (app [] a0) [[(i t3.n.x), (i t3.n.y), (i t3.n.z), (i t3.b)]]) 0 ((0 + (len a0)) + 1)) (sl (okE tP (rt tP t2)) (sl (b9 (slR tP (app (app [] a0) [[(i t3.n.x), (i t3.n.y), (i t3.n.z), (i t3.b)]]) 0 ((0 + (len a0)) + 1)) (rt tP (rt tP t2))) (sl (!t25) (some ((b false), [])) (sl (okS tP (app (app [] a0) [[(i t3.n.x), (i t3.n.y), (i t3.n.z), (i t3.b)]]) 0 ((0 + (len a0)) + 1)) (sl (okE tP (rt tP t2)) (sl (f8 (slR tP (app (app [] a0) [[(i t3.n.x), (i t3.n.y), (i t3.n.z), (i t3.b)]]) 0 ((0 + (len a0)) + 1)) (rt tP (rt tP t2))) (sl t26 (some ((b false), [])) (sl t22.2.N9 (sl (okS tP [[(i t4.n.x), (i t4.n.y), (i t4.n.z), (i t4.b)]] 0 1) (sl (okE tP (rt tP t2)) (sl (b9 (slR tP [[(i t4.n.x), (i t4.n.y), (i t4.n.z), (i t4.b)]] 0 1) (rt tP (rt tP t2))) (sl (!t12) (some ((b false), [])) (sl (okS tP [[(i t4.n.x), (i t4.n.y), (i t4.n.z), (i t4.b)]] 0 1) (sl (okE tP (rt tP t2)) (sl (f8 (slR tP [[(i t4.n.x), (i t4.n.y), (i t4.n.z), (i t4.b)]] 0 1) (rt tP (rt tP t2))) (sl t13 (some ((b false), [])) (sl t1 (sl (okE tP (rt tP t2)) (sl (okS tP (app (app [] a0) [[(i t3.n.x), (i t3.n.y), (i t3.n.z), (i t3.b)]]) 0 ((0 + (len a0)) + 1)) (sl (b9 (rt tP (rt tP t2)) (slR tP (app (app [] a0) [[(i t3.n.x), (i t3.n.y), (i t3.n.z), (i t3.b)]]) 0 ((0 + (len a0)) + 1))) (sl (t27 == (!t22.2.N9)) (sl (okE tP (rt tP t2)) (sl (okS tP [[(i t4.n.x), (i t4.n.y), (i t4.n.z), (i t4.b)]] 0 1) (sl (b9 (rt tP (rt tP t2)) (slR tP [[(i t4.n.x), (i t4.n.y), (i t4.n.z), (i t4.b)]] 0 1)) (some a2) none) none) none) (some ((b false), []))) none) none) none) (some ((b false), [])))) none) none) none)) none) none) none) (sl t1 (sl (okE tP (rt tP t2)) (sl (okS tP (app (app [] a0) [[(i t3.n.x), (i t3.n.y), (i t3.n.z), (i t3.b)]]) 0 ((0 + (len a0)) + 1)) (sl (b9 (rt tP (rt tP t2)) (slR tP (app (app [] a0) [[(i t3.n.x), (i t3.n.y), (i t3.n.z), (i t3.b)]]) 0 ((0 + (len a0)) + 1))) (sl (t27 == (!t22.2.N9)) (sl (okE tP (rt tP t2)) (sl (okS tP [[(i t4.n.x), (i t4.n.y), (i t4.n.z), (i t4.b)]] 0 1) (sl (b9 (rt tP (rt tP t2)) (slR tP [[(i t4.n.x), (i t4.n.y), (i t4.n.z), (i t4.b)]] 0 1)) (some a2) none) none) none) (some ((b false), []))) none) none) none) (some ((b false), []))))) none) none) none)) none) none) none) (sl t22.2.N9 (sl (okS tP [[(i t4.n.x), (i t4.n.y), (i t4.n.z), (i t4.b)]] 0 1) (sl (okE tP (rt tP t2)) (sl (b9 (slR tP [[(i t4.n.x), (i t4.n.y), (i t4.n.z), (i t4.b)]] 0 1) (rt tP (rt tP t2))) (sl (!t12) (some ((b false), [])) (sl (okS tP [[(i t4.n.x), (i t4.n.y), (i t4.n.z), (i t4.b)]] 0 1) (sl (okE tP (rt tP t2)) (sl (f8 (slR tP [[(i t4.n.x), (i t4.n.y), (i t4.n.z), (i t4.b)]] 0 1) (rt tP (rt tP t2))) (sl t13 (some ((b false), [])) (sl t1 (sl (okE tP (rt tP t2)) (sl (okS tP (app (app [] a0) [[(i t3.n.x), (i t3.n.y), (i t3.n.z), (i t3.b)]]) 0 ((0 + (len a0)) + 1)) (sl (b9 (rt tP (rt tP t2)) (slR tP (app (app [] a0) [[(i t3.n.x), (i t3.n.y), (i t3.n.z), (i t3.b)]]) 0 ((0 + (len a0)) + 1))) (sl (t27 == (!t22.2.N9)) (sl (okE tP (rt tP t2)) (sl (okS tP [[(i t4.n.x), (i t4.n.y), (i t4.n.z), (i t4.b)]] 0 1) (sl (b9 (rt tP (rt tP t2)) (slR tP [[(i t4.n.x), (i t4.n.y), (i t4.n.z), (i t4.b)]] 0 1)) (some a2) none) none) none) (some ((b false), []))) none) none) none) (some ((b false), [])))) none) none) none)) none) none) none) (sl t1 (sl (okE tP (rt tP t2)) (sl (okS tP (app (app [] a0) [[(i t3.n.x), (i t3.n.y), (i t3.n.z), (i t3.b)]]) 0 ((0 + (len a0)) + 1)) (sl (b9 (rt tP (rt tP t2)) (slR tP (app (app [] a0) [[(i t3.n.x), (i t3.n.y), (i t3.n.z), (i t3.b)]]) 0 ((0 + (len a0)) + 1))) (sl (t27 == (!t22.2.N9)) (sl (okE tP (rt tP t2)) (sl (okS tP [[(i t4.n.x), (i t4.n.y), (i t4.n.z), (i t4.b)]] 0 1) (sl (b9 (rt tP (rt tP t2)) (slR tP [[(i t4.n.x), (i t4.n.y), (i t4.n.z), (i t4.b)]] 0 1)) (some a2) none) none) none) (some ((b false), []))) none) none) none) (some ((b false), [])))))) none) none) none)) (sl (okS tP (app (app [] a0) [[(i t3.n.x), (i t3.n.y), (i t3.n.z), (i t3.b)]]) 0 ((0 + (len a0)) + 1)) (sl (okS tP [[(i t4.n.x), (i t4.n.y), (i t4.n.z), (i t4.b)]] 0 1) (sl (f8 (slR tP (app (app [] a0) [[(i t3.n.x), (i t3.n.y), (i t3.n.z), (i t3.b)]]) 0 ((0 + (len a0)) + 1)) (slR tP [[(i t4.n.x), (i t4.n.y), (i t4.n.z), (i t4.b)]] 0 1)) (sl (!t24) (some ((b false), [])) (sl t22.2.db3 (sl (okS tP (app (app [] a0) [[(i t3.n.x), (i t3.n.y), (i t3.n.z), (i t3.b)]]) 0 ((0 + (len a0)) + 1)) (sl (okE tP (rt tP t2)) (sl (b9 (slR tP (app (app [] a0) [[(i t3.n.x), (i t3.n.y), (i t3.n.z), (i t3.b)]]) 0 ((0 + (len a0)) + 1)) (rt tP (rt tP t2))) (sl (!t25) (some ((b false), [])) (sl (okS tP (app (app [] a0) [[(i t3.n.x), (i t3.n.y), (i t3.n.z), (i t3.b)]]) 0 ((0 + (len a0)) + 1)) (sl (okE tP (rt tP t2)) (sl (f8 (slR tP (app (app [] a0) [[(i t3.n.x), (i t3.n.y), (i t3.n.z), (i t3.b)]]) 0 ((0 + (len a0)) + 1)) (rt tP (rt tP t2))) (sl t26 (some ((b false), [])) (sl t22.2.N9 (sl (okS tP [[(i t4.n.x), (i t4.n.y), (i t4.n.z), (i t4.b)]] 0 1) (sl (okE tP (rt tP t2)) (sl (b9 (slR tP [[(i t4.n.x), (i t4.n.y), (i t4.n.z), (i t4.b)]] 0 1) (rt tP (rt tP t2))) (sl (!t12) (some ((b false), [])) (sl (okS tP [[(i t4.n.x), (i t4.n.y), (i t4.n.z), (i t4.b)]] 0 1) (sl (okE tP (rt tP t2)) (sl (f8 (slR tP [[(i t4.n.x), (i t4.n.y), (i t4.n.z), (i t4.b)]] 0 1) (rt tP (rt tP t2))) (sl t13 (some ((b false), [])) (sl t1 (sl (okE tP (rt tP t2)) (sl (okS tP (app (app [] a0) [[(i t3.n.x), (i t3.n.y), (i t3.n.z), (i t3.b)]]) 0 ((0 + (len a0)) + 1)) (sl (b9 (rt tP (rt tP t2)) (slR tP (app (app [] a0) [[(i t3.n.x), (i t3.n.y), (i t3.n.z), (i t3.b)]]) 0 ((0 + (len a0)) + 1))) (sl (t27 == (!t22.2.N9)) (sl (okE tP (rt tP t2)) (sl (okS tP [[(i t4.n.x), (i t4.n.y), (i t4.n.z), (i t4.b)]] 0 1) (sl (b9 (rt tP (rt tP t2)) (slR tP [[(i t4.n.x), (i t4.n.y), (i t4.n.z), (i t4.b)]] 0 1)) (some a2) none) none) none) (some ((b false), []))) none) none) none) (some ((b false), [])))) none) none) none)) none) none) none) (sl t1 (sl (okE tP (rt tP t2)) (sl (okS tP (app (app [] a0) [[(i t3.n.x), (i t3.n.y), (i t3.n.z), (i t3.b)]]) 0 ((0 + (len a0)) + 1)) (sl (b9 (rt tP (rt tP t2)) (slR tP (app (app [] a0) [[(i t3.n.x), (i t3.n.y), (i t3.n.z), (i t3.b)]]) 0 ((0 + (len a0)) + 1))) (sl (t27 == (!t22.2.N9)) (sl (okE tP (rt tP t2)) (sl (okS tP [[(i t4.n.x), (i t4.n.y), (i t4.n.z), (i t4.b)]] 0 1) (sl (b9 (rt tP (rt tP t2)) (slR tP [[(i t4.n.x), (i t4.n.y), (i t4.n.z), (i t4.b)]] 0 1)) (some a2) none) none) none) (some ((b false), []))) none) none) none) (some ((b false), []))))) none) none) none)) none) none) none) (sl t22.2.N9 (sl (okS tP [[(i t4.n.x), (i t4.n.y), (i t4.n.z), (i t4.b)]] 0 1) (sl (okE tP (rt tP t2)) (sl (b9 (slR tP [[(i t4.n.x), (i t4.n.y), (i t4.n.z), (i t4.b)]] 0 1) (rt tP (rt tP t2))) (sl (!t12) (some ((b false), [])) (sl (okS tP [[(i t4.n.x), (i t4.n.y), (i t4.n.z), (i t4.b)]] 0 1) (sl (okE tP (rt tP t2)) (sl (f8 (slR tP [[(i t4.n.x), (i t4.n.y), (i t4.n.z), (i t4.b)]] 0 1) (rt tP (rt tP t2))) (sl t13 (some ((b false), [])) (sl t1 (sl (okE tP (rt tP t2)) (sl (okS tP (app (app [] a0) [[(i t3.n.x), (i t3.n.y), (i t3.n.z), (i t3.b)]]) 0 ((0 + (len a0)) + 1)) (sl (b9 (rt tP (rt tP t2)) (slR tP (app (app [] a0) [[(i t3.n.x), (i t3.n.y), (i t3.n.z), (i t3.b)]]) 0 ((0 + (len a0)) + 1))) (sl (t27 == (!t22.2.N9)) (sl (okE tP (rt tP t2)) (sl (okS tP [[(i t4.n.x), (i t4.n.y), (i t4.n.z), (i t4.b)]] 0 1) (sl (b9 (rt tP (rt tP t2)) (slR tP [[(i t4.n.x), (i t4.n.y), (i t4.n.z), (i t4.b)]] 0 1)) (some a2) none) none) none) (some ((b false), []))) none) none) none) (some ((b false), [])))) none) none) none)) none) none) none) (sl t1 (sl (okE tP (rt tP t2)) (sl (okS tP (app (app [] a0) [[(i t3.n.x), (i t3.n.y), (i t3.n.z), (i t3.b)]]) 0 ((0 + (len a0)) + 1)) (sl (b9 (rt tP (rt tP t2)) (slR tP (app (app [] a0) [[(i t3.n.x), (i t3.n.y), (i t3.n.z), (i t3.b)]]) 0 ((0 + (len a0)) + 1))) (sl (t27 == (!t22.2.N9)) (sl (okE tP (rt tP t2)) (sl (okS tP [[(i t4.n.x), (i t4.n.y), (i t4.n.z), (i t4.b)]] 0 1) (sl (b9 (rt tP (rt tP t2)) (slR tP [[(i t4.n.x), (i t4.n.y), (i t4.n.z), (i t4.b)]] 0 1)) (some a2) none) none) none) (some ((b false), []))) none) none) none) (some ((b false), [])))))) none) none) none))) none) none)) none) none) none) none) none) none) (sl a7 (sl a5 (sl (okE tP t2) (sl (I5 (rt tP t2)) (sl a6 (sl (Nat.beq t28.1 1) (sl (okS tP (app (app [] a0) [[(i t3.n.x), (i t3.n.y), (i t3.n.z), (i t3.b)]]) 0 ((0 + (len a0)) + 1)) (sl (F9 (slR tP (app (app [] a0) [[(i t3.n.x), (i t3.n.y), (i t3.n.z), (i t3.b)]]) 0 ((0 + (len a0)) + 1))) (sl (!(t23 == t28.2.db3)) (some ((b false), [])) (sl (okS tP (app (app [] a0) [[(i t4.n.x), (i t4.n.y), (i t4.n.z), (i t4.b)]]) 0 ((0 + (len a0)) + 1)) (sl (F9 (slR tP (app (app [] a0) [[(i t4.n.x), (i t4.n.y), (i t4.n.z), (i t4.b)]]) 0 ((0 + (len a0)) + 1))) (sl (!(t17 == t28.2.N9)) (some ((b false), [])) (sl (!t28.2.db3) (sl (!t28.2.N9) (some ((b false), [])) (sl (okS tP (app (app [] a0) [[(i t3.n.x), (i t3.n.y), (i t3.n.z), (i t3.b)]]) 0 ((0 + (len a0)) + 1)) (sl (okS tP (app (app [] a0) [[(i t4.n.x), (i t4.n.y), (i t4.n.z), (i t4.b)]]) 0 ((0 + (len a0)) + 1)) (sl (f8 (slR tP (app (app [] a0) [[(i t3.n.x), (i t3.n.y), (i t3.n.z), (i t3.b)]]) 0 ((0 + (len a0)) + 1)) (slR tP (app (app [] a0) [[(i t4.n.x), (i t4.n.y), (i t4.n.z), (i t4.b)]]) 0 ((0 + (len a0)) + 1))) (sl (!t29) (some ((b false), [])) (sl t28.2.db3 (sl (okS tP (app (app [] a0) [[(i t3.n.x), (i t3.n.y), (i t3.n.z), (i t3.b)]]) 0 ((0 + (len a0)) + 1)) (sl (okE tP (rt tP t2)) (sl (b9 (slR tP (app (app [] a0) [[(i t3.n.x), (i t3.n.y), (i t3.n.z), (i t3.b)]]) 0 ((0 + (len a0)) + 1)) (rt tP (rt tP t2))) (sl (!t25) (some ((b false), [])) (sl (okS tP (app (app [] a0) [[(i t3.n.x), (i t3.n.y), (i t3.n.z), (i t3.b)]]) 0 ((0 + (len a0)) + 1)) (sl (okE tP (rt tP t2)) (sl (f8 (slR tP (app (app [] a0) [[(i t3.n.x), (i t3.n.y), (i t3.n.z), (i t3.b)]]) 0 ((0 + (len a0)) + 1)) (rt tP (rt tP t2))) (sl t26 (some ((b false), [])) (sl t28.2.N9 (sl (okS tP (app (app [] a0) [[(i t4.n.x), (i t4.n.y), (i t4.n.z), (i t4.b)]]) 0 ((0 + (len a0)) + 1)) (sl (okE tP (rt tP t2)) (sl (b9 (slR tP (app (app [] a0) [[(i t4.n.x), (i t4.n.y), (i t4.n.z), (i t4.b)]]) 0 ((0 + (len a0)) + 1)) (rt tP (rt tP t2))) (sl (!t19) (some ((b false), [])) (sl (okS tP (app (app [] a0) [[(i t4.n.x), (i t4.n.y), (i t4.n.z), (i t4.b)]]) 0 ((0 + (len a0)) + 1)) (sl (okE tP (rt tP t2)) (sl (f8 (slR tP (app (app [] a0) [[(i t4.n.x), (i t4.n.y), (i t4.n.z), (i t4.b)]]) 0 ((0 + (len a0)) + 1)) (rt tP (rt tP t2))) (sl t20 (some ((b false), [])) (sl t1 (sl (okE tP (rt tP t2)) (sl (okS tP (app (app [] a0) [[(i t3.n.x), (i t3.n.y), (i t3.n.z), (i t3.b)]]) 0 ((0 + (len a0)) + 1)) (sl (b9 (rt tP (rt tP t2)) (slR tP (app (app [] a0) [[(i t3.n.x), (i t3.n.y), (i t3.n.z), (i t3.b)]]) 0 ((0 + (len a0)) + 1))) (sl (t27 == (!t28.2.N9)) (sl (okE tP (rt tP t2)) (sl (okS tP (app (app [] a0) [[(i t4.n.x), (i t4.n.y), (i t4.n.z), (i t4.b)]]) 0 ((0 + (len a0)) + 1)) (sl (b9 (rt tP (rt tP t2)) (slR tP (app (app [] a0) [[(i t4.n.x), (i t4.n.y), (i t4.n.z), (i t4.b)]]) 0 ((0 + (len a0)) + 1))) (some a3) none) none) none) (some ((b false), []))) none) none) none) (some ((b false), [])))) none) none) none)) none) none) none) (sl t1 (sl (okE tP (rt tP t2)) (sl (okS tP (app (app [] a0) [[(i t3.n.x), (i t3.n.y), (i t3.n.z), (i t3.b)]]) 0 ((0 + (len a0)) + 1)) (sl (b9 (rt tP (rt tP t2)) (slR tP (app (app [] a0) [[(i t3.n.x), (i t3.n.y), (i t3.n.z), (i t3.b)]]) 0 ((0 + (len a0)) + 1))) (sl (t27 == (!t28.2.N9)) (sl (okE tP (rt tP t2)) (sl (okS tP (app (app [] a0) [[(i t4.n.x), (i t4.n.y), (i t4.n.z), (i t4.b)]]) 0 ((0 + (len a0)) + 1)) (sl (b9 (rt tP (rt tP t2)) (slR tP (app (app [] a0) [[(i t4.n.x), (i t4.n.y), (i t4.n.z), (i t4.b)]]) 0 ((0 + (len a0)) + 1))) (some a3) none) none) none) (some ((b false), []))) none) none) none) (some ((b false), []))))) none) none) none)) none) none) none) (sl t28.2.N9 (sl (okS tP (app (app [] a0) [[(i t4.n.x), (i t4.n.y), (i t4.n.z), (i t4.b)]]) 0 ((0 + (len a0)) + 1)) (sl (okE tP (rt tP t2)) (sl (b9 (slR tP (app (app [] a0) [[(i t4.n.x), (i t4.n.y), (i t4.n.z), (i t4.b)]]) 0 ((0 + (len a0)) + 1)) (rt tP (rt tP t2))) (sl (!t19) (some ((b false), [])) (sl (okS tP (app (app [] a0) [[(i t4.n.x), (i t4.n.y), (i t4.n.z), (i t4.b)]]) 0 ((0 + (len a0)) + 1)) (sl (okE tP (rt tP t2)) (sl (f8 (slR tP (app (app [] a0) [[(i t4.n.x), (i t4.n.y), (i t4.n.z), (i t4.b)]]) 0 ((0 + (len a0)) + 1)) (rt tP (rt tP t2))) (sl t20 (some ((b false), [])) (sl t1 (sl (okE tP (rt tP t2)) (sl (okS tP (app (app [] a0) [[(i t3.n.x), (i t3.n.y), (i t3.n.z), (i t3.b)]]) 0 ((0 + (len a0)) + 1)) (sl (b9 (rt tP (rt tP t2)) (slR tP (app (app [] a0) [[(i t3.n.x), (i t3.n.y), (i t3.n.z), (i t3.b)]]) 0 ((0 + (len a0)) + 1))) (sl (t27 == (!t28.2.N9)) (sl (okE tP (rt tP t2)) (sl (okS tP (app (app [] a0) [[(i t4.n.x), (i t4.n.y), (i t4.n.z), (i t4.b)]]) 0 ((0 + (len a0)) + 1)) (sl (b9 (rt tP (rt tP t2)) (slR tP (app (app [] a0) [[(i t4.n.x), (i t4.n.y), (i t4.n.z), (i t4.b)]]) 0 ((0 + (len a0)) + 1))) (some a3) none) none) none) (some ((b false), []))) none) none) none) (some ((b false), [])))) none) none) none)) none) none) none) (sl t1 (sl (okE tP (rt tP t2)) (sl (okS tP (app (app [] a0) [[(i t3.n.x), (i t3.n.y), (i t3.n.z), (i t3.b)]]) 0 ((0 + (len a0)) + 1)) (sl (b9 (rt tP (rt tP t2)) (slR tP (app (app [] a0) [[(i t3.n.x), (i t3.n.y), (i t3.n.z), (i t3.b)]]) 0 ((0 + (len a0)) + 1))) (sl (t27 == (!t28.2.N9)) (sl (okE tP (rt tP t2)) (sl (okS tP (app (app [] a0) [[(i t4.n.x), (i t4.n.y), (i t4.n.z), (i t4.b)]]) 0 ((0 + (len a0)) + 1)) (sl (b9 (rt tP (rt tP t2)) (slR tP (app (app [] a0) [[(i t4.n.x), (i t4.n.y), (i t4.n.z), (i t4.b)]]) 0 ((0 + (len a0)) + 1))) (some a3) none) none) none) (some ((b false), []))) none) none) none) (some ((b false), [])))))) none) none) none)) (sl (okS tP (app (app [] a0) [[(i t3.n.x), (i t3.n.y), (i t3.n.z), (i t3.b)]]) 0 ((0 + (len a0)) + 1)) (sl (okS tP (app (app [] a0) [[(i t4.n.x), (i t4.n.y), (i t4.n.z), (i t4.b)]]) 0 ((0 + (len a0)) + 1)) (sl (f8 (slR tP (app (app [] a0) [[(i t3.n.x), (i t3.n.y), (i t3.n.z), (i t3.b)]]) 0 ((0 + (len a0)) + 1)) (slR tP (app (app [] a0) [[(i t4.n.x), (i t4.n.y), (i t4.n.z), (i t4.b)]]) 0 ((0 + (len a0)) + 1))) (sl (!t29) (some ((b false), [])) (sl t28.2.db3 (sl (okS tP (app (app [] a0) [[(i t3.n.x), (i t3.n.y), (i t3.n.z), (i t3.b)]]) 0 ((0 + (len a0)) + 1)) (sl (okE tP (rt tP t2)) (sl (b9 (slR tP (app (app [] a0) [[(i t3.n.x), (i t3.n.y), (i t3.n.z), (i t3.b)]]) 0 ((0 + (len a0)) + 1)) (rt tP (rt tP t2))) (sl (!t25) (some ((b false), [])) (sl (okS tP (app (app [] a0) [[(i t3.n.x), (i t3.n.y), (i t3.n.z), (i t3.b)]]) 0 ((0 + (len a0)) + 1)) (sl (okE tP (rt tP t2)) (sl (f8 (slR tP (app (app [] a0) [[(i t3.n.x), (i t3.n.y), (i t3.n.z), (i t3.b)]]) 0 ((0 + (len a0)) + 1)) (rt tP (rt tP t2))) (sl t26 (some ((b false), [])) (sl t28.2.N9 (sl (okS tP (app (app [] a0) [[(i t4.n.x), (i t4.n.y), (i t4.n.z), (i t4.b)]]) 0 ((0 + (len a0)) + 1)) (sl (okE tP (rt tP t2)) (sl (b9 (slR tP (app (app [] a0) [[(i t4.n.x), (i t4.n.y), (i t4.n.z), (i t4.b)]]) 0 ((0 + (len a0)) + 1)) (rt tP (rt tP t2))) (sl (!t19) (some ((b false), [])) (sl (okS tP (app (app [] a0) [[(i t4.n.x), (i t4.n.y), (i t4.n.z), (i t4.b)]]) 0 ((0 + (len a0)) + 1)) (sl (okE tP (rt tP t2)) (sl (f8 (slR tP (app (app [] a0) [[(i t4.n.x), (i t4.n.y), (i t4.n.z), (i t4.b)]]) 0 ((0 + (len a0)) + 1)) (rt tP (rt tP t2))) (sl t20 (some ((b false), [])) (sl t1 (sl (okE tP (rt tP t2)) (sl (okS tP (app (app [] a0) [[(i t3.n.x), (i t3.n.y), (i t3.n.z), (i t3.b)]]) 0 ((0 + (len a0)) + 1)) (sl (b9 (rt tP (rt tP t2)) (slR tP (app (app [] a0) [[(i t3.n.x), (i t3.n.y), (i t3.n.z), (i t3.b)]]) 0 ((0 + (len a0)) + 1))) (sl (t27 == (!t28.2.N9)) (sl (okE tP (rt tP t2)) (sl (okS tP (app (app [] a0) [[(i t4.n.x), (i t4.n.y), (i t4.n.z), (i t4.b)]]) 0 ((0 + (len a0)) + 1)) (sl (b9 (rt tP (rt tP t2)) (slR tP (app (app [] a0) [[(i t4.n.x), (i t4.n.y), (i t4.n.z), (i t4.b)]]) 0 ((0 + (len a0)) + 1))) (some a3) none) none) none) (some ((b false), []))) none) none) none) (some ((b false), [])))) none) none) none)) none) none) none) (sl t1 (sl (okE tP (rt tP t2)) (sl (okS tP (app (app [] a0) [[(i t3.n.x), (i t3.n.y), (i t3.n.z), (i t3.b)]]) 0 ((0 + (len a0)) + 1)) (sl (b9 (rt tP (rt tP t2)) (slR tP (app (app [] a0) [[(i t3.n.x), (i t3.n.y), (i t3.n.z), (i t3.b)]]) 0 ((0 + (len a0)) + 1))) (sl (t27 == (!t28.2.N9)) (sl (okE tP (rt tP t2)) (sl (okS tP (app (app [] a0) [[(i t4.n.x), (i t4.n.y), (i t4.n.z), (i t4.b)]]) 0 ((0 + (len a0)) + 1)) (sl (b9 (rt tP (rt tP t2)) (slR tP (app (app [] a0) [[(i t4.n.x), (i t4.n.y), (i t4.n.z), (i t4.b)]]) 0 ((0 + (len a0)) + 1))) (some a3) none) none) none) (some ((b false), []))) none) none) none) (some ((b false), []))))) none) none) none)) none) none) none) (sl t28.2.N9 (sl (okS tP (app (app [] a0) [[(i t4.n.x), (i t4.n.y), (i t4.n.z), (i t4.b)]]) 0 ((0 + (len a0)) + 1)) (sl (okE tP (rt tP t2)) (sl (b9 (slR tP (app (app [] a0) [[(i t4.n.x), (i t4.n.y), (i t4.n.z), (i t4.b)]]) 0 ((0 + (len a0)) + 1)) (rt tP (rt tP t2))) (sl (!t19) (some ((b false), [])) (sl (okS tP (app (app [] a0) [[(i t4.n.x), (i t4.n.y), (i t4.n.z), (i t4.b)]]) 0 ((0 + (len a0)) + 1)) (sl (okE tP (rt tP t2)) (sl (f8 (slR tP (app (app [] a0) [[(i t4.n.x), (i t4.n.y), (i t4.n.z), (i t4.b)]]) 0 ((0 + (len a0)) + 1)) (rt tP (rt tP t2))) (sl t20 (some ((b false), [])) (sl t1 (sl (okE tP (rt tP t2)) (sl (okS tP (app (app [] a0) [[(i t3.n.x), (i t3.n.y), (i t3.n.z), (i t3.b)]]) 0 ((0 + (len a0)) + 1)) (sl (b9 (rt tP (rt tP t2)) (slR tP (app (app [] a0) [[(i t3.n.x), (i t3.n.y), (i t3.n.z), (i t3.b)]]) 0 ((0 + (len a0)) + 1))) (sl (t27 == (!t28.2.N9)) (sl (okE tP (rt tP t2)) (sl (okS tP (app (app [] a0) [[(i t4.n.x), (i t4.n.y), (i t4.n.z), (i t4.b)]]) 0 ((0 + (len a0)) + 1)) (sl (b9 (rt tP (rt tP t2)) (slR tP (app (app [] a0) [[(i t4.n.x), (i t4.n.y), (i t4.n.z), (i t4.b)]]) 0 ((0 + (len a0)) + 1))) (some a3) none) none) none) (some ((b false), []))) none) none) none) (some ((b false), [])))) none) none) none)) none) none) none) (sl t1 (sl (okE tP (rt tP t2)) (sl (okS tP (app (app [] a0) [[(i t3.n.x), (i t3.n.y), (i t3.n.z), (i t3.b)]]) 0 ((0 + (len a0)) + 1)) (sl (b9 (rt tP (rt tP t2)) (slR tP (app (app [] a0) [[(i t3.n.x), (i t3.n.y), (i t3.n.z), (i t3.b)]]) 0 ((0 + (len a0)) + 1))) (sl (t27 == (!t28.2.N9)) (sl (okE tP (rt tP t2)) (sl (okS tP (app (app [] a0) [[(i t4.n.x), (i t4.n.y), (i t4.n.z), (i t4.b)]]) 0 ((0 + (len a0)) + 1)) (sl (b9 (rt tP (rt tP t2)) (slR tP (app (app [] a0) [[(i t4.n.x), (i t4.n.y), (i t4.n.z), (i t4.b)]]) 0 ((0 + (len a0)) + 1))) (some a3) none) none) none) (some ((b false), []))) none) none) none) (some ((b false), [])))))) none) none) none))) none) none)) none) none) none) none) none) none) none) none)) none) none)) none) none) none) none) none)
noncomputable def wa2 (x : List Int) (y : List Int) : Bool := O4 (one r1B) (ma4 x y)
noncomputable def wa3 (x : List Int) (y : List Int) : Bool := okO (one r1B) (ma4 x y)
noncomputable def fc3 : Sum := ja9 (ga9 tI) (ga9 tI) (fun x y => .guard (wa3 x y) (.ret ((one r1B).enc (wa2 x y), [])))
theorem Yb0 : j7 prog G 6 fc3 := lb8 (bd b6 Ob7) (one r1B) (o := ma4) fun x y => Ba5 (.s .p (.s .p (.s .p (.s .p (.s .p (.s .p (.s (.s .p (.b (.u Ca6.ls))) .p))))))) [Ca6.pr] (by kernel_rfl) (.cons Ib8 .nil) (by kernel_rfl)
end Go.Ev.Ce
end
namespace Go.Ev.Ce
open Go Go.Ev Go.Ev.L Go.Proofs
theorem he4 {p : Pln} (h : Bd p) : Wa9 p = fa8 p := by
 unfold Wa9 Db8 fa8
 simp only
 have := h.x1; have := h.x2; have := h.y1; have := h.y2; have := h.z1; have := h.z2; have := h.b1; have := h.b2
 rw [Y0 (by omega) (by omega), Y0 (by omega) (by omega), Y0 (by omega) (by omega), Y0 (by omega) (by omega)]
 simp only [Int.zero_sub]
theorem le8 {α : Type} (f g : α → Bool) : ∀ (l : List α) (a c : Bool), l.foldl (fun s x => (s.1 || f x, s.2 || g x)) (a, c) = (a || l.any f, c || l.any g)
 | [], a, c => by simp
 | x :: l, a, c => by
  rw [List.foldl_cons, le8 f g l, List.any_cons, List.any_cons, Bool.or_assoc, Bool.or_assoc]
theorem Id6 (b0 : Bool) (c : List Pln) (n1 n2 : Nat) (X : List Pt) (p : Pln) (r1 r2 : List (List b7)) (hX : X.length ≤ 1000000000) :
  lp (A9 ⟨b0, c, n1, n2, X, (X.length : Int), p.n.x, p.n.y, p.n.z, p.b, r1, r2⟩) ⟨false, false, 0⟩ = (1, ⟨X.any fun x => decide (rm p x > 0), X.any fun x => decide (rm p x < 0), (X.length : Int)⟩) := by
 have h := Fb3 (step := A9 ⟨b0, c, n1, n2, X, (X.length : Int), p.n.x, p.n.y, p.n.z, p.b, r1, r2⟩) (mk := fun j (s : Bool × Bool) => (⟨s.1, s.2, (j : Int)⟩ : s8))
  (f := fun s x => (s.1 || decide (rm p x > 0), s.2 || decide (rm p x < 0))) (fin := 1) tX X (fun _ _ => True) hX
  (fun j s hj _ => by
   refine ⟨?_, trivial⟩
   obtain ⟨s1, s2⟩ := s
   simp only [A9, X4, Int.toNat_natCast, Tc7, n8 hj (show X.length ≤ 4611686018427387904 by omega)]
   rw [btD (l0 hj), bt (e8 hj)]
   cases s1 <;> cases s2 <;> rfl)
  (fun s _ => by simp only [A9, X4]; rw [bfD (v8 (Nat.lt_irrefl _))]) 0 (Nat.zero_le _) (false, false) trivial
 have h := h.1
 rw [List.drop_zero, le8, Bool.false_or, Bool.false_or] at h
 exact h
theorem Ad9 (x y : List Int) : ma4 x y = some (b true, []) := by
 have hg := ld8 x
 have hp := Ad8 y
 have hm := re6 x
 have hfl := he4 (La2 hp)
 unfold ma4
 simp only [l8, K0, l6, Td2, Td3, re5, Vc6, hfl]
 generalize bb7 x = c at *
 generalize Ca0 y = p at *
 have hl := hg.l
 have hc : c.length ≤ 1000000000 := by omega
 have hX := nc9 c
 have hpf := db0 hp
 have lp1 : (c ++ [p]).length ≤ 48 := by rw [List.length_append, List.length_singleton]; omega
 have lq1 : (c ++ [fa8 p]).length ≤ 48 := by rw [List.length_append, List.length_singleton]; omega
 have hA : (c ++ [p]).length ≤ 1000000000 := by omega
 have hB : (c ++ [fa8 p]).length ≤ 1000000000 := by omega
 have hA' : (c ++ [p]).length ≤ 100000000 := by omega
 have hB' : (c ++ [fa8 p]).length ≤ 100000000 := by omega
 have hc' : c.length ≤ 100000000 := by omega
 have loop := fun n1 n2 r1 r2 => Id6 true c n1 n2 (pts c) p r1 r2 (by omega)
 have e1 : ((pts c).any fun x => decide (rm p x > 0)) = cin c p := rfl
 have e2 : ((pts c).any fun x => decide (rm p x < 0)) = cout c p := rfl
 rw [e1, e2] at loop
 have f1 := Xc7 hg hp
 have f2 : ful (c ++ [fa8 p]) = cout c p := by rw [Xc7 hg hpf, fc2 hg hp]
 have f3 := Id5 hg hp
 have f4 := ue5 hg hp
 have f5 := ld9 hg hp
 have f6 : Ac6 c (c ++ [fa8 p]) = !cin c p := by
  rw [ld9 hg hpf, ← fc2 hg hpf]
  rw [show fa8 (fa8 p) = p from Hd6 p]
 have g1 := fun h => Wd8 hg hp h
 have g2 : cout c p = true → Ac6 (c ++ [fa8 p]) c = true ∧ apart (c ++ [fa8 p]) c = false := fun h => Wd8 hg hpf (by rw [fc2 hg hp]; exact h)
 have ea : ∀ q : Pln, app (app [] (bL tP c)) [[(i q.n.x), (i q.n.y), (i q.n.z), (i q.b)]] = bL tP (c ++ [q]) := fun q => Cb6 c q.n.x q.n.y q.n.z q.b
 have es : ∀ q : Pln, slR tP (bL tP (c ++ [q])) 0 ((0 + len (bL tP c)) + 1) = c ++ [q] := fun q => by
  have := zb0 tP (c ++ [q])
  rw [List.length_append, List.length_singleton] at this
  rw [K1, Nat.zero_add]
  exact this
 have eo : ∀ q : Pln, okS tP (bL tP (c ++ [q])) 0 ((0 + len (bL tP c)) + 1) = true := fun q => by
  have := zb1 tP (c ++ [q])
  rw [List.length_append, List.length_singleton] at this
  rw [K1, Nat.zero_add]
  exact this
 have q1 : Nat.ble ((0 + len (bL tP c)) * 32) room = true := X5 (by rw [K1]; omega)
 have q2 : Nat.ble (((0 + len (bL tP c)) + 1) * 32) room = true := X5 (by rw [K1]; omega)
 have q3 : Nat.beq (0 + len (bL tP c)) (len (app [] (bL tP c))) = true := by
  rw [Nat.zero_add, show app [] (bL tP c) = bL tP c from rfl, Nat.beq_refl]
 simp only [Na8, ea, es, eo, q1, q2, q3, loop, nb6 hc, nb7 hc, sb1 hA, sb2 hA, sb1 hB, sb2 hB, tb7 hA' hB', tb8 hA' hB', tb7 hA' hc', tb8 hA' hc', tb7 hB' hc', tb8 hB' hc',
  Ia2 hA hc, Ia3 hA hc, Ia2 hB hc, Ia3 hB hc, Ia2 hc hA, Ia3 hc hA, Ia2 hc hB, Ia3 hc hB, f1, f2, f3, f5, f6, n5, Bool.and_self, Nat.beq_refl, beq_self_eq_true, Bool.not_true, Bool.not_not, ca8]
 cases c with
 | nil =>
  have hs : ∀ q : Pln, slR tP [[(i q.n.x), (i q.n.y), (i q.n.z), (i q.b)]] 0 1 = [] ++ [q] := fun q => rfl
  have ho : ∀ q : Pln, okS tP [[(i q.n.x), (i q.n.y), (i q.n.z), (i q.b)]] 0 1 = true := fun q => rfl
  simp only [hs, ho, show Nat.beq (len (bL tP ([] : List Pln))) 0 = true from rfl, loop, sb1 hA, sb2 hA, sb1 hB, sb2 hB, tb7 hA' hB', tb8 hA' hB', tb7 hA' hc', tb8 hA' hc', tb7 hB' hc', tb8 hB' hc',
   Ia2 hA hc, Ia3 hA hc, Ia2 hB hc, Ia3 hB hc, Ia2 hc hA, Ia3 hc hA, Ia2 hc hB, Ia3 hc hB, f1, f2, f3, f5, f6, n5, Nat.beq_refl, beq_self_eq_true, Bool.not_true, ca8]
  cases h1 : cin [] p with
  | true =>
   obtain ⟨k1, k2⟩ := g1 h1
   cases h2 : cout [] p with
   | true =>
    obtain ⟨k3, k4⟩ := g2 h2
    simp only [k1, k2, k3, k4, n5, ca8, Bool.not_true, beq_self_eq_true]
   | false => simp only [k1, k2, n5, ca8, Bool.not_true, Bool.not_false, beq_self_eq_true]
  | false =>
   cases h2 : cout [] p with
   | true =>
    obtain ⟨k3, k4⟩ := g2 h2
    simp only [k3, k4, n5, ca8, Bool.not_true, Bool.not_false, beq_self_eq_true]
   | false => rw [h1, h2] at f4; cases f4
 | cons q0 c0 =>
  simp only [show Nat.beq (len (bL tP (q0 :: c0))) 0 = false from rfl, ca8]
  cases h1 : cin (q0 :: c0) p with
  | true =>
   obtain ⟨k1, k2⟩ := g1 h1
   cases h2 : cout (q0 :: c0) p with
   | true =>
    obtain ⟨k3, k4⟩ := g2 h2
    simp only [k1, k2, k3, k4, n5, ca8, Bool.not_true, beq_self_eq_true]
   | false => simp only [k1, k2, n5, ca8, Bool.not_true, Bool.not_false, beq_self_eq_true]
  | false =>
   cases h2 : cout (q0 :: c0) p with
   | true =>
    obtain ⟨k3, k4⟩ := g2 h2
    simp only [k3, k4, n5, ca8, Bool.not_true, Bool.not_false, beq_self_eq_true]
   | false => rw [h1, h2] at f4; cases f4
theorem ue6 (x y : List Int) : wa2 x y = true := by unfold wa2; rw [Ad9]; rfl
theorem ue7 (x y : List Int) : wa3 x y = true := by unfold wa3; rw [Ad9]; rfl
end Go.Ev.Ce
namespace Go.Ev
open Go Go.ChangeShapes Go.RowKit
structure Bc6 (w w' : World) : Prop where
 os : w'.os = w.os
 output : w'.output = w.output
 size : w.heap.size ≤ w'.heap.size
 block : ∀ k, k < w.heap.size → w'.heap[k]? = w.heap[k]?
theorem Bc6.kept {w w' : World} (h : Bc6 w w') (may : MemPlace → Prop) : w.keptBut w' may := by
 refine ⟨h.os, h.output, fun i hi => ?_⟩
 rw [h.block i hi]
 cases w.heap[i]? with
 | none => rfl
 | some o => cases o <;> first | exact ⟨rfl, rfl, rfl, fun _ _ => rfl⟩ | exact .inr ⟨rfl, rfl⟩ | rfl
theorem Bc6.frozen {w w' : World} (h : Bc6 w w') (b off : Nat) (hb : b < w.heap.size) : w'.frozen? ⟨b, off, none⟩ = w.frozen? ⟨b, off, none⟩ := by
 simp only [World.frozen?, h.block b hb]
theorem Bc6.cell {w w' : World} (h : Bc6 w w') (b off : Nat) (hb : b < w.heap.size) : w'.cell? ⟨b, off, none⟩ = w.cell? ⟨b, off, none⟩ := by
 simp only [World.cell?, h.block b hb]
theorem Bc6.same {w w' : World} (h : Bc6 w w') (p : MemPlace) (hp : p.block < w.heap.size) : w.sameAt w' p := by
 cases p with
 | cell b off => exact h.cell b off hp
 | map b => exact h.block b hp
theorem Db9 {α β : Type} {f : α → Option β} : ∀ {l : List α} {r : List β}, l.mapM f = some r → r.length = l.length ∧ ∀ (j : Nat) y, r[j]? = some y → ∃ x, l[j]? = some x ∧ f x = some y
 | [], r, h => by
  have : r = [] := by simpa using h.symm
  subst this; simp
 | x :: l, r, h => by
  rw [List.mapM_cons] at h
  obtain ⟨y, h1, h2⟩ := Option.bind_eq_some_iff.1 h
  obtain ⟨r', h3, h4⟩ := Option.bind_eq_some_iff.1 h2
  have : r = y :: r' := by simpa using h4.symm
  subst this
  obtain ⟨g1, g2⟩ := Db9 h3
  refine ⟨by simp [g1], fun j z hz => ?_⟩
  cases j with
  | zero => simp at hz; subst hz; exact ⟨x, rfl, h1⟩
  | succ j => simpa using g2 j z (by simpa using hz)
section
variable {D : Type} {enc : TypeId × Value → D} {P : Program}
theorem Lb2 {T : TypeId → Prop} (K : Kids P T) (hsz : ∀ {t e : TypeId}, T t → P.underlying t = some (.slice e) → 0 < P.cellsOf e) {w w' : World} {sp : Nat → Bool} (hs : Bc6 w w') :
  ∀ {ts : List TypeId} {vs : List Value} {ds : List (DataW D)} {ps : List MemPlace}, (∀ t ∈ ts, T t) → DataW.TrodAll enc P w 0 (fun _ => true) true ts vs ds ps → (∀ p ∈ ps, p.block < w.heap.size) → (∀ p ∈ ps, sp p.block = true) → DataW.TrodAll enc P w' 0 sp true ts vs ds ps
 | [], [], [], _, _, h, _, _ => h
 | t :: ts, v :: vs, d :: ds, ps, ht, h, hlt, hsp => by
  obtain ⟨p, q, ⟨fuel, h1⟩, h2, rfl⟩ := h
  refine ⟨p, q, ⟨fuel, ?_⟩, Lb2 K hsz hs (fun t h => ht t (by simp [h])) h2 (fun x hx => hlt x (by simp [hx])) (fun x hx => hsp x (by simp [hx])), rfl⟩
  exact DataW.trod_stays K hsz (fun h => by cases h) (ht t (by simp)) h1 (fun x hx => hs.same x (hlt x (by simp at hx ⊢; exact .inl hx))) (fun x hx => hsp x (by simp at hx ⊢; exact .inl hx))
 | [], _ :: _, _, _, _, h, _, _ => h.elim
 | [], [], _ :: _, _, _, h, _, _ => h.elim
 | _ :: _, [], _, _, _, h, _, _ => h.elim
 | _ :: _, _ :: _, [], _, _, h, _, _ => h.elim
theorem Wd9 {T : TypeId → Prop} (K : Kids P T) (hsz : ∀ {t e : TypeId}, T t → P.underlying t = some (.slice e) → 0 < P.cellsOf e) {f : Func} {s : ChangeSpec} {apart fresh handsOn again : Bool} {W W' : World} {args : Array Value} {ds gs : List (DataW D)} {before : List MemPlace} {tb : TypeId}
  (hT : ∀ t ∈ f.params.toList, T t) (hW : DataW.Whole enc P f.params.toList s.vars apart W args.toList ds gs before) (hv : s.vars = []) (hr : f.resultTypes = #[tb]) (hb : P.underlying tb = some .bool)
  (h1 : (s.fn D ds).results = [.lit (.bool true)]) (h2 : (s.fn D ds).args = ds) (h3 : (s.fn D ds).vars = []) (hs : Bc6 W W') :
  s.post enc P f apart fresh handsOn again W args (.bool true) W' := by
 have hlt := hW.lt
 obtain ⟨pa, pv, hA, hV, hps, hz, hn⟩ := id hW
 rw [hv] at hV
 have hpv : gs = [] ∧ pv = [] := by
  cases gs with
  | nil => exact ⟨rfl, hV⟩
  | cons => exact hV.elim
 obtain ⟨rfl, rfl⟩ := hpv
 rw [← List.append_nil ds] at h1 h3
 have h2 : (s.fn D (ds ++ [])).args = ds := by rw [List.append_nil]; exact h2
 have hpa : before = pa := by rw [hps]; simp
 subst hpa
 have hagain : ∀ sp : Nat → Bool, (∀ p ∈ before, sp p.block = true) → DataW.TrodAll enc P W' 0 sp true f.params.toList args.toList ds before := fun sp h => Lb2 K hsz hs hT hA hlt h
 have hres : ∀ (b : Nat) (sp : Nat → Bool) (hd : Bool), DataW.TrodAll enc P W' b sp hd f.resultTypes.toList ((Value.bool true).resultList f.resultTypes.size) [.lit (.bool true)] [] := fun b sp hd => by
  rw [hr]
  exact ⟨[], [], ⟨1, by simp [DataW.trod, hb, Value.cells, Value.resultList]⟩, rfl, rfl⟩
 have hvars : ∀ sp : Nat → Bool, DataW.TrodVars enc P W' sp s.vars ([] : List (DataW D)) [] := fun sp => by rw [hv]; exact rfl
 have hok : ∀ (j : Nat) (t : TypeId) (r : Value), f.resultTypes[j]? = some t → ((Value.bool true).resultList f.resultTypes.size)[j]? = some r → Value.okWide P W' .any 0 t r := by
  rw [hr]
  intro j t r h4 h5
  cases j with
  | zero =>
   simp at h4
   subst h4
   have : r = .bool true := by simpa [Value.resultList] using h5.symm
   subst this
   exact okWide_bool_mk hb _
  | succ j => simp at h4
 have hag : DataW.TrodAll enc P W' 0 (fun _ => true) true (f.resultTypes.toList ++ f.params.toList) ((Value.bool true).resultList f.resultTypes.size ++ args.toList) (.lit (.bool true) :: ds) before := by
  have := hagain (fun _ => true) (fun _ _ => rfl)
  rw [hr]
  exact ⟨[], before, ⟨1, by simp [DataW.trod, hb, Value.cells, Value.resultList]⟩, this, rfl⟩
 refine ⟨ds, [], before, [], before, [], hW, ?_, ?_, ?_, hs.kept _, fun _ => ?_⟩
 ·rw [h1]; exact hres _ _ _
 ·rw [h2]; exact hagain _ fun p hp => by simpa using hlt p hp
 ·rw [h3]; exact hvars _
 ·refine ⟨hok, .lit (.bool true) :: ds, [], before, ⟨before, [], hag, hvars _, by simp, ?_, ?_⟩, ?_⟩
  ·intro b off hp
   rw [hs.frozen b off (hlt _ hp)]
   exact hz b off (by simpa using hp)
  ·intro ha; simpa using hn ha
  ·intro p hp _; exact hp
variable {w : World} {base : Nat} {spare : Nat → Bool} {held : Bool}
def ud7 (w : World) : Fz := fun b o => (w.cell? ⟨b, o, none⟩).isSome
theorem ue8 {fuel : Nat} {t : TypeId} {k : IntKind} {cs : List Value} {x : DataW D × List MemPlace} (ht : P.underlying t = some (.int k)) (h : DataW.trod enc P w base spare held fuel t cs = some x) :
  ∃ n, cs = [.int k n] ∧ (Lit.int k n).wf = true ∧ x.1 = .lit (.int k n) := by
 cases fuel with
 | zero => cases h
 | succ fuel =>
  match cs, h with
  | [], h => simp [DataW.trod, ht] at h
  | [v], h =>
   cases v with
   | int k' n =>
    simp only [DataW.trod, ht] at h
    split at h
    ·rename_i hk
     obtain ⟨rfl, hw⟩ := hk
     injection h with h; subst h
     exact ⟨n, rfl, hw, rfl⟩
    ·cases h
   | _ => simp [DataW.trod, ht] at h
  | a :: b :: r, h => simp [DataW.trod, ht] at h
theorem he5 {fuel : Nat} {t : TypeId} {cs : List Value} {x : DataW D × List MemPlace} (ht : P.underlying t = some .bool) (h : DataW.trod enc P w base spare held fuel t cs = some x) :
  ∃ n, cs = [.bool n] ∧ x.1 = .lit (.bool n) := by
 cases fuel with
 | zero => cases h
 | succ fuel =>
  match cs, h with
  | [], h => simp [DataW.trod, ht] at h
  | [v], h =>
   cases v with
   | bool n =>
    simp only [DataW.trod, ht] at h
    injection h with h; subst h
    exact ⟨n, rfl, rfl⟩
   | _ => simp [DataW.trod, ht] at h
  | a :: b :: r, h => simp [DataW.trod, ht] at h
theorem Xd0 {fuel : Nat} {t e : TypeId} {n : Nat} {cs : List Value} {x : DataW D × List MemPlace} (ht : P.underlying t = some (.array n e)) (h : DataW.trod enc P w base spare held fuel t cs = some x) :
  cs.length = P.cellsOf t ∧ ∃ (fuel' : Nat) (xs : List (DataW D × List MemPlace)), xs.length = n ∧ x.1 = .agg (xs.map (·.1)) ∧ ∀ (j : Nat) y, xs[j]? = some y → DataW.trod enc P w base spare held fuel' e ((cs.drop (j * P.cellsOf e)).take (P.cellsOf e)) = some y := by
 cases fuel with
 | zero => cases h
 | succ fuel =>
  unfold DataW.trod at h
  rw [ht] at h
  simp only at h
  split at h
  ·rename_i hl
   obtain ⟨xs, h1, h2⟩ := Option.map_eq_some_iff.1 h
   have hx := Db9 h1
   exact ⟨hl, fuel, xs, by simpa using hx.1, by rw [← h2], fun j y hy => by
    obtain ⟨a, ha, hb⟩ := hx.2 j y hy
    have : j < n := by
     have := (List.getElem?_eq_some_iff.1 hy).1
     rw [hx.1] at this; simpa using this
    rw [List.getElem?_range this] at ha
    injection ha with ha
    subst ha
    exact hb⟩
  ·cases h
theorem Id7 {fuel : Nat} {t : TypeId} {fs : Array Field} {cs : List Value} {x : DataW D × List MemPlace} (ht : P.underlying t = some (.struct fs)) (h : DataW.trod enc P w base spare held fuel t cs = some x) :
  cs.length = P.cellsOf t ∧ ∃ (fuel' : Nat) (xs : List (DataW D × List MemPlace)), xs.length = fs.size ∧ x.1 = .agg (xs.map (·.1)) ∧ ∀ (j : Nat) f, fs[j]? = some f → ∃ y, xs[j]? = some y ∧ DataW.trod enc P w base spare held fuel' f.type ((cs.drop f.offset).take (P.cellsOf f.type)) = some y := by
 cases fuel with
 | zero => cases h
 | succ fuel =>
  unfold DataW.trod at h
  rw [ht] at h
  simp only at h
  split at h
  ·rename_i hl
   obtain ⟨xs, h1, h2⟩ := Option.map_eq_some_iff.1 h
   have hx := Db9 h1
   refine ⟨hl, fuel, xs, by simpa using hx.1, by rw [← h2], fun j f hf => ?_⟩
   have hj : j < xs.length := by
    rw [hx.1]; simpa using (Array.getElem?_eq_some_iff.1 hf).1
   obtain ⟨a, ha, hb⟩ := hx.2 j _ (List.getElem?_eq_getElem hj)
   have : a = f := by
    have : fs.toList[j]? = some f := by simpa using hf
    exact Option.some.inj (ha.symm.trans this)
   subst this
   exact ⟨_, List.getElem?_eq_getElem hj, hb⟩
  ·cases h
theorem Xd1 {fuel : Nat} {t e : TypeId} {cs : List Value} {x : DataW D × List MemPlace} (ht : P.underlying t = some (.slice e)) (h : DataW.trod enc P w base spare held fuel t cs = some x) :
  cs = [.slice none 0 0] ∨ ∃ (a : Addr) (n cap fuel' : Nat), cs = [.slice (some a) n cap] ∧ n ≤ cap ∧ cap ≤ maxLen ∧ ∀ j, j < n → ∃ row y, w.cells? base (a.add (j * P.cellsOf e)) (P.cellsOf e) = some row ∧ DataW.trod enc P w base spare held fuel' e row = some y := by
 cases fuel with
 | zero => cases h
 | succ fuel =>
  match cs, h with
  | [], h => simp [DataW.trod, ht] at h
  | [v], h =>
   cases v with
   | slice a len cap =>
    cases a with
    | none =>
     simp only [DataW.trod, ht] at h
     split at h <;> first | (rename_i e1; cases e1; done) | skip
     all_goals first | exact .inl rfl | (simp_all; done) | skip
    | some a =>
     refine .inr ?_
     simp only [DataW.trod, ht] at h
     split at h
     ·rename_i hc
      obtain ⟨elems, h1, h2⟩ := Option.bind_eq_some_iff.1 h
      have hx := Db9 h1
      refine ⟨a, len, cap, fuel, rfl, hc.2.1, hc.2.2, fun j hj => ?_⟩
      have hj' : j < elems.length := by rw [hx.1]; simpa using hj
      obtain ⟨i, hi, hb⟩ := hx.2 j _ (List.getElem?_eq_getElem hj')
      rw [List.getElem?_range hj] at hi
      injection hi with hi
      subst hi
      obtain ⟨row, r1, r2⟩ := Option.bind_eq_some_iff.1 hb
      exact ⟨row, _, r1, r2⟩
     ·cases h
   | _ => simp [DataW.trod, ht] at h
  | a :: b :: r, h => simp [DataW.trod, ht] at h
theorem Bd0 : ∀ (d : Nat) (t : TypeId) (l : List (Nat × CK)), Y9 P d t = some l → ∀ (fuel : Nat) (cs : List Value) (x : DataW D × List MemPlace), DataW.trod enc P w base spare held fuel t cs = some x → ∀ p ∈ l, va4 cs.toArray p
 | 0, _, _, h, _, _, _, _ => by cases h
 | d + 1, t, l, h, fuel, cs, x, hx => by
  have hpart : ∀ {off n : Nat} {e : TypeId} {l' : List (Nat × CK)} {fuel' : Nat} {y : DataW D × List MemPlace}, wb9 off n (Y9 P d e) = some l' → DataW.trod enc P w base spare held fuel' e ((cs.drop off).take n) = some y → ∀ p ∈ l', va4 cs.toArray p := fun {off n e l' fuel' y} h1 h2 p hp => by
   obtain ⟨l2, g1, g2, rfl⟩ := Ca7 h1
   obtain ⟨q, hq, rfl⟩ := List.mem_map.1 hp
   have := Bd0 d e l2 g1 fuel' _ y h2 q hq
   have hlt := g2 q hq
   unfold va4 at this ⊢
   simp only [List.getElem?_toArray, List.getElem?_take, hlt, if_true, List.getElem?_drop] at this ⊢
   exact this
  have hcat : ∀ {α : Type} (f : α → Option (List (Nat × CK))) (xs : List α) (l : List (Nat × CK)), ia5 (xs.map f) = some l → ∀ p ∈ l, ∃ a ∈ xs, ∃ l', f a = some l' ∧ p ∈ l' := fun {α} f xs => by
   induction xs with
   | nil => intro l h; simp only [List.map_nil, ia5] at h; injection h with h; subst h; simp
   | cons a xs ih =>
    intro l h p hp
    simp only [List.map_cons, ia5] at h
    cases h1 : f a with
    | none => simp [h1] at h
    | some l1 =>
    cases h2 : ia5 (xs.map f) with
    | none => simp [h1, h2] at h
    | some l2 =>
    simp only [h1, h2] at h
    injection h with h; subst h
    rcases List.mem_append.1 hp with hp | hp
    ·exact ⟨a, by simp, l1, h1, hp⟩
    ·obtain ⟨b, hb, r⟩ := ih l2 h2 p hp
     exact ⟨b, by simp [hb], r⟩
  unfold Y9 at h
  cases hu : P.underlying t with
  | none => simp [hu] at h
  | some u =>
  cases u with
  | int k =>
   simp only [hu] at h; injection h with h; subst h
   obtain ⟨n, rfl, _, _⟩ := ue8 hu hx
   intro p hp; simp at hp; subst hp; exact ⟨n, rfl⟩
  | bool =>
   simp only [hu] at h; injection h with h; subst h
   obtain ⟨n, rfl, _⟩ := he5 hu hx
   intro p hp; simp at hp; subst hp; exact ⟨n, rfl⟩
  | struct fs =>
   simp only [hu] at h
   split at h
   ·cases h
   obtain ⟨_, fuel', xs, _, _, hxs⟩ := Id7 hu hx
   intro p hp
   obtain ⟨f, hf, l', h1, h2⟩ := hcat _ _ _ h p hp
   split at h1
   ·cases h1
   obtain ⟨j, hj⟩ := List.getElem?_of_mem hf
   obtain ⟨y, _, hy⟩ := hxs j f (by simpa using hj)
   have hc : P.cellsOf f.type = szT P f.type := by
    unfold Program.cellsOf szT
    cases P.info? f.type <;> rfl
   rw [hc] at hy
   exact hpart h1 hy p h2
  | array n e =>
   simp only [hu] at h
   split at h
   case isFalse => cases h
   obtain ⟨_, fuel', xs, hn, _, hxs⟩ := Xd0 hu hx
   intro p hp
   obtain ⟨j, hj, l', h1, h2⟩ := hcat _ _ _ h p hp
   have hj' : j < xs.length := by rw [hn]; simpa using hj
   have hy := hxs j _ (List.getElem?_eq_getElem hj')
   have hc : P.cellsOf e = szT P e := by
    unfold Program.cellsOf szT
    cases P.info? e <;> rfl
   rw [hc] at hy
   exact hpart h1 hy p h2
  | _ => simp [hu] at h
def Ma1 (k : IntKind) (es : Nat) (g : Nat → Int) : List b7 := (List.range es).map fun c => .v (.int k (g c))
def Ba3 (k : IntKind) (es : Nat) : List (Nat × CK) := (List.range es).map fun c => (c, .int k)
theorem he6 {d : Nat} {t : TypeId} {k : IntKind} {es : Nat} (hf : Y9 P d t = some (Ba3 k es)) {fuel : Nat} {cs : List Value} {x : DataW D × List MemPlace} (hx : DataW.trod enc P w base spare held fuel t cs = some x) (hl : cs.length = es) :
  ∃ g : Nat → Int, ∀ c, c < es → cs[c]? = some (.int k (g c)) := by
 have h := Bd0 d t _ hf fuel cs x hx
 have h' : ∀ c, ∃ n : Int, c < es → cs[c]? = some (.int k n) := fun c => by
  by_cases hc : c < es
  ·have := h (c, .int k) (List.mem_map.2 ⟨c, by simpa using hc, rfl⟩)
   obtain ⟨n, hn⟩ := this
   exact ⟨n, fun _ => by simpa using hn⟩
  ·exact ⟨0, fun h => absurd h hc⟩
 exact ⟨fun c => Classical.choose (h' c), fun c hc => Classical.choose_spec (h' c) hc⟩
theorem Xd2 {F : Fz} {w : World} (k : IntKind) (n : Int) : X8 F w (.v (.int k n)) (.int k n) := .v _ rfl
theorem ud8 {k : IntKind} {es : Nat} {g : Nat → Int} {c : Nat} {x : b7} (h : (Ma1 k es g)[c]? = some x) : c < es ∧ x = .v (.int k (g c)) := by
 unfold Ma1 at h
 obtain ⟨h1, h2⟩ := Ea5 h
 exact ⟨h1, h2.symm⟩
theorem Ic2 {t e : TypeId} {k : IntKind} {es d : Nat} (ht : P.underlying t = some (.slice e)) (hf : Y9 P d e = some (Ba3 k es)) (hes : P.cellsOf e = es) (h0 : 0 < es) {fuel : Nat} {cs : List Value} {x : DataW D × List MemPlace} (hx : DataW.trod enc P w 0 spare held fuel t cs = some x) :
  ∃ (v : Value) (n : Nat) (g : Nat → Nat → Int), cs = [v] ∧ n ≤ maxLen ∧ X8 (ud7 w) w (.tree es n fun j => Ma1 k es (g j)) v := by
 rcases Xd1 ht hx with rfl | ⟨a, n, cap, fuel', rfl, hn, hc, hel⟩
 ·exact ⟨_, 0, fun _ _ => 0, rfl, Nat.zero_le _, .nil _ _⟩
 ·rw [hes] at hel
  have hcell : ∀ j, j < n → ∃ g : Nat → Int, ∀ c, c < es → w.cell? ((a.add (j * es)).add c) = some (.int k (g c)) := fun j hj => by
   obtain ⟨row, y, h1, h2⟩ := hel j hj
   unfold World.cells? at h1
   split at h1
   ·obtain ⟨l1, l2⟩ := Db9 h1
    have hl : row.length = es := by simpa using l1
    obtain ⟨g, hg⟩ := he6 hf h2 hl
    refine ⟨g, fun c hc => ?_⟩
    obtain ⟨i, hi, hi2⟩ := l2 c _ (hg c hc)
    rw [List.getElem?_range hc] at hi
    injection hi with hi
    subst hi
    exact hi2
   ·cases h1
  have hg : ∀ j, ∃ g : Nat → Int, j < n → ∀ c, c < es → w.cell? ((a.add (j * es)).add c) = some (.int k (g c)) := fun j => by
   by_cases hj : j < n
   ·obtain ⟨g, hg⟩ := hcell j hj
    exact ⟨g, fun _ => hg⟩
   ·exact ⟨fun _ => 0, fun h => absurd h hj⟩
  obtain ⟨g, hg⟩ := Classical.axiomOfChoice hg
  have hspot : 0 < n → a.spot = none := fun hn => by
   have := hg 0 hn 0 h0
   simpa [Addr.add] using World.cell?_spot this
  have hw : ∀ j c, j < n → c < es → w.cell? ⟨a.block, a.off + (j * es + c), none⟩ = some (.int k (g j c)) := fun j c hj hc => by
   have := hg j hj c hc
   rw [V5 (hspot (by omega)), V5 rfl] at this
   simpa [Nat.add_assoc] using this
  refine ⟨_, n, g, rfl, Nat.le_trans hn hc, .tree es n _ a cap (fun j c => .int k (g j c)) hspot hn (fun i hi => by simp [Ma1]) (fun i c hi hc => ?_) hw fun i c hi hc => ?_⟩
  ·unfold ud7
   rw [hw i c hi hc]
   rfl
  ·have := (ud8 (List.getElem?_eq_getElem hc)).2
   rw [this]
   exact Xd2 _ _
theorem Id8 (w : World) : v9 (fun k => w.heap.size ≤ k) (fun _ => ⟨0, 0, 0⟩) [] (ud7 w) w :=
 ⟨fun id b h => by simp at h, fun id id' b b' h => by simp at h, fun _ _ h => h, fun _ h => h⟩
theorem Id9 {G : Nat → List Value} {f : FuncId} {S : Sum} (hS : j7 P G f S) {aargs : List b7} {args : List Value} (hrun : ∃ out, (S aargs []).run = some (b true, out)) (hl : aargs.length = args.length)
  (ha : ∀ (i : Nat) x x', aargs[i]? = some x → args[i]? = some x' → ca5 (fun _ => ⟨0, 0, 0⟩) [] (ud7 w) w x x') (hG : ∀ g (c : Nat) x, (G g)[c]? = some x → x.oneCell' = true ∧ w.cell? ⟨g, c, none⟩ = some x) :
  Calls P f args.toArray w fun e w' => e = .returned (.bool true) ∧ Bc6 w w' := by
 obtain ⟨out, hrun⟩ := hrun
 obtain ⟨_, hc⟩ := hS aargs [] (b true) out hrun (fun k => w.heap.size ≤ k) (fun _ => ⟨0, 0, 0⟩) (ud7 w) w args (Id8 w) hl (fun i x x' h1 h2 => .val (ha i x x' h1 h2)) (fun g c x hx => by
  obtain ⟨h1, h2⟩ := hG g c x hx
  exact ⟨h1, by unfold ud7; rw [h2]; rfl, h2⟩)
 refine hc.mono fun e w' ⟨r', he, ρ', F', hA, hH, hW⟩ => ?_
 have := ca0 hW
 subst this
 exact ⟨he, hA.ext.os, hA.ext.output, hA.ext.size, fun k hk => hA.ext.block k hk (by omega)⟩
theorem Nc8 {ρ : Rho} {H : List b8} {t e : TypeId} {k : IntKind} {es d : Nat} {v : Value} {dd : DataW D} {pp : List MemPlace} {bs : Nat} {r : Reach} (ht : P.underlying t = some (.slice e)) (hf : Y9 P d e = some (Ba3 k es)) (hes : P.cellsOf e = es) (h0 : 0 < es)
  (hok : Value.okWide P w r bs t v) (h : DataW.Trod enc P w 0 spare held t v dd pp) : ∃ (n : Nat) (g : Nat → Nat → Int), n ≤ maxLen ∧ ca5 ρ H (ud7 w) w (.tree es n fun j => Ma1 k es (g j)) v := by
 obtain ⟨fuel, hx⟩ := h
 obtain ⟨v', n, g, h1, h2, h3⟩ := Ic2 ht hf hes h0 hx
 have hv : v.cells = #[v] := by
  unfold Value.okWide at hok
  rw [ht] at hok
  cases v with
  | agg cs => exfalso; simp [Cell.okWide, Cell.ok, ht] at hok
  | _ => rfl
 rw [hv] at h1
 have : v = v' := by simpa using h1
 subst this
 exact ⟨n, g, h2, .cell (.mem h3)⟩
end
end Go.Ev
namespace Go.Ev.L
open Go Go.Ev
theorem Xd3 {α : Type} (t : Ty α) (n : Nat) (g : Nat → Nat → Int) (f : (Nat → Int) → α) (h : ∀ j, Ma1 .i64 t.es (g j) = t.row (f (g j))) :
  ∃ l, (ga9 t).dec (.tree t.es n fun j => Ma1 .i64 t.es (g j)) = some l ∧ (ga9 t).grd (.tree t.es n fun j => Ma1 .i64 t.es (g j)) = true := by
 refine ⟨lsL t n fun j => Ma1 .i64 t.es (g j), ?_, pb9 t (f := fun k => f (g k)) fun k _ => h k⟩
 show Bool.rec (motive := fun _ => Option (List α)) none (some (lsL t n fun j => Ma1 .i64 t.es (g j))) (Nat.beq t.es t.es) = _
 rw [Nat.beq_refl]
end Go.Ev.L
namespace Go.Ev.L
open Go Go.Ev
def Rdg {α : Type} (c : Cod α) (x : b7) (a : α) : Prop := c.dec x = some a ∧ c.grd x = true
theorem Xd4 {α : Type} (t : Ty α) (n : Nat) (g : Nat → Nat → Int) (f : (Nat → Int) → α) (h : ∀ j, Ma1 .i64 t.es (g j) = t.row (f (g j))) : ∃ l, Rdg (ga9 t) (.tree t.es n fun j => Ma1 .i64 t.es (g j)) l := Xd3 t n g f h
theorem md0 (n : Nat) (g : Nat → Nat → Int) : ∃ l, Rdg (ga9 tI) (.tree 1 n fun j => Ma1 .i64 1 (g j)) l := Xd4 tI n g (fun g => g 0) fun _ => rfl
section
variable {α β γ δ ε : Type} {c : Cod α} {d : Cod β} {e : Cod γ} {f : Cod δ} {c5 : Cod ε} {x y z w v : b7} {a : α} {b' : β} {g : γ} {j : δ} {m : ε} {r : b7 × List b8}
theorem Ne5 {k : α → β → DT (b7 × List b8)} (h1 : Rdg c x a) (h2 : Rdg d y b') (h : (k a b').run = some r) : (ja9 c d k [x, y] []).run = some r := by
 unfold ja9
 simp only [h1.1, h1.2, h2.1, h2.2]
 exact h
end
theorem ue9 {g p : Bool} (hg : g = true) (hp : p = true) : (DT.guard g (.ret ((one r1B).enc p, ([] : List b8)))).run = some (b true, ([] : List b8)) := by subst hg; subst hp; rfl
end Go.Ev.L
