/- Own work: a part of the proof. -/
import Derived.Test.YtlccibobknidjaaGreatEvE6
set_option linter.unusedVariables false
set_option linter.unusedSimpArgs false
set_option linter.unnecessarySimpa false
set_option linter.unusedSectionVars false
namespace Go.Ev.Ce
open Go Go.Ev Go.Ev.L Go.Proofs
theorem ee2 (x : List Pln) (y : Pln) (hx : x.length ≤ 1000000) : oa9 x y = true := (Od4 x y hx).g
theorem ee3 (x : List Pln) (y : Pln) (hx : x.length ≤ 1000000) : G6 x y ≠ [] ∧ (G6 x y).length ≤ x.length + 1 ∧ ∀ p ∈ G6 x y, p = y ∨ p ∈ x := (Od4 x y hx).p
structure Fc (ph : Nat) (out : List Pln) (m : Nat) : Prop where
 h : (ph = 0 ∧ out = []) ∨ ph = 1
 l : out.length ≤ m
theorem Fc.more {ph m m' : Nat} {out : List Pln} (h : Fc ph out m) (hm : m ≤ m') : Fc ph out m' := ⟨h.h, Nat.le_trans h.l hm⟩
theorem Yd2 (l : List V3) (hl : l.length ≤ 48) (a c : Nat) (ha : a < l.length) (hc : c < a) (h0 : Nat) (out : List Pln) (m : Nat) (hm : m ≤ 900000) (hf : Fc h0 out m) :
  ∃ t s, lp (ua0 ⟨l, (a : Int), (c : Int)⟩) ⟨h0, 0, out⟩ = (t, s) ∧ (t = s.ph + 1 ∧ Fc s.ph s.ba5 (m + 100)) := by
 refine Ba0 (step := ua0 ⟨l, (a : Int), (c : Int)⟩) (mk := fun j (x : Nat × List Pln) => (⟨x.1, (j : Int), x.2⟩ : D4)) c (fun j x => Fc x.1 x.2 (m + 2 * j) ∧ j ≤ 48) (fun t s => t = s.ph + 1 ∧ Fc s.ph s.ba5 (m + 100)) (by omega) (fun j x hj hx => ?_) (fun j x hj hx => ?_) 0 (h0, out) ⟨hf, by omega⟩
 ·obtain ⟨h, o⟩ := x
  obtain ⟨⟨hx, hx2⟩, _⟩ := hx
  have hn := p6 hj (show c ≤ 4611686018427387904 by omega)
  have hh : ∀ p, ea9 p l = true := fun p => Yd1 p l (by omega)
  have hg1 : ∀ y, oa9 o y = true := fun y => ee2 o y (by simp only at hx2; omega)
  have hp1 : ∀ y, G6 o y ≠ [] ∧ (G6 o y).length ≤ o.length + 1 := fun y => by have := ee3 o y (by simp only at hx2; omega); exact ⟨this.1, this.2.1⟩
  have hg2 : ∀ y z, oa9 (G6 o y) z = true := fun y z => ee2 _ z (by have := (hp1 y).2; simp only at hx2; omega)
  have hp2 : ∀ y z, (G6 (G6 o y) z).length ≤ o.length + 2 := fun y z => by
   have := (ee3 (G6 o y) z (by have := (hp1 y).2; simp only at hx2; omega)).2.1
   have := (hp1 y).2
   omega
  simp only at hx hx2
  have stay : Fc h o (m + 2 * (j + 1)) ∧ j + 1 ≤ 48 := ⟨⟨hx, by omega⟩, by omega⟩
  have put1 : ∀ y, Fc 1 (G6 o y) (m + 2 * (j + 1)) ∧ j + 1 ≤ 48 := fun y => ⟨⟨.inr rfl, by have := (hp1 y).2; omega⟩, by omega⟩
  have put2 : ∀ y z, Fc 1 (G6 (G6 o y) z) (m + 2 * (j + 1)) ∧ j + 1 ≤ 48 := fun y z => ⟨⟨.inr rfl, by have := hp2 y z; omega⟩, by omega⟩
  rcases hx with ⟨rfl, rfl⟩ | rfl
  ·show Nx (V2 Stp.next Stp.exit Stp.fail _ _) _ _
   simp only [V2, Gb5, Int.toNat_natCast, l9, G3, hh, hg1, hg2, hn]
   rw [btD (o5 hj), bt (f9 ha), bt (f9 (show c < l.length by omega)), bt (f9 (show j < l.length by omega))]
   simp only [o8]
   refine Nx.sl (fun _ => .nx ⟨(0, []), rfl, stay⟩) fun _ => Nx.sl (fun _ => Nx.sl (fun _ => .nx ⟨(1, _), rfl, put2 _ _⟩) fun _ => .nx ⟨(1, _), rfl, put1 _⟩) fun _ => Nx.sl (fun _ => .nx ⟨(1, _), rfl, put1 _⟩) fun _ => .nx ⟨(0, []), rfl, stay⟩
  ·show Nx (V4 Stp.next Stp.exit Stp.fail _ _) _ _
   simp only [V4, Gb5, Int.toNat_natCast, l9, G3, hh, hg1, hg2, hn]
   rw [btD (o5 hj), bt (f9 ha), bt (f9 (show c < l.length by omega)), bt (f9 (show j < l.length by omega))]
   simp only [o8]
   refine Nx.sl (fun _ => .nx ⟨(1, o), rfl, stay⟩) fun _ => Nx.sl (fun _ => Nx.sl (fun _ => .nx ⟨(1, _), rfl, put2 _ _⟩) fun _ => .nx ⟨(1, _), rfl, put1 _⟩) fun _ => Nx.sl (fun _ => .nx ⟨(1, _), rfl, put1 _⟩) fun _ => .nx ⟨(1, o), rfl, stay⟩
 ·obtain ⟨h, o⟩ := x
  obtain ⟨⟨hx, hx2⟩, h48⟩ := hx
  simp only at hx hx2
  rcases hx with ⟨rfl, rfl⟩ | rfl
  ·refine ⟨1, ?_, rfl, ⟨.inl ⟨rfl, rfl⟩, by show 0 ≤ _; omega⟩⟩
   show V2 Stp.next Stp.exit Stp.fail _ _ = _
   simp only [V2]
   rw [bfD (by omega)]
  ·refine ⟨2, ?_, rfl, ⟨.inr rfl, by show o.length ≤ _; omega⟩⟩
   show V4 Stp.next Stp.exit Stp.fail _ _ = _
   simp only [V4]
   rw [bfD (by omega)]
theorem Yd3 (l : List V3) (hl : l.length ≤ 48) (a : Nat) (ha : a < l.length) (h0 : Nat) (out : List Pln) (m : Nat) (hm : m ≤ 800000) (hf : Fc h0 out m) :
  ∃ t s, lp (ua1 ⟨(a : Int)⟩) ⟨h0, l, 0, out⟩ = (t, s) ∧ (t = s.ph + 1 ∧ Fc s.ph s.ba5 (m + 5000) ∧ s.f7 = l) := by
 refine Ba0 (step := ua1 ⟨(a : Int)⟩) (mk := fun j (x : Nat × List Pln) => (⟨x.1, l, (j : Int), x.2⟩ : D5)) a (fun j x => Fc x.1 x.2 (m + 100 * j) ∧ j ≤ 48) (fun t s => t = s.ph + 1 ∧ Fc s.ph s.ba5 (m + 5000) ∧ s.f7 = l) (by omega) (fun j x hj hx => ?_) (fun j x hj hx => ?_) 0 (h0, out) ⟨hf, by omega⟩
 ·obtain ⟨h, o⟩ := x
  obtain ⟨hx, _⟩ := hx
  have hn := p6 hj (show a ≤ 4611686018427387904 by omega)
  simp only at hx
  obtain ⟨t, s, e1, e2, e3⟩ := Yd2 l hl a j ha hj h o (m + 100 * j) (by omega) hx
  obtain ⟨s1, s2, s3⟩ := s
  simp only at e2 e3
  have go : Fc s1 s3 (m + 100 * (j + 1)) ∧ j + 1 ≤ 48 := ⟨e3.more (by omega), by omega⟩
  rcases hx.h with ⟨rfl, rfl⟩ | rfl
  ·show Nx (V5 Stp.next Stp.exit Stp.fail _ _) _ _
   simp only [V5, l9, o2, hn]
   rw [btD (o5 hj), e1, e2]
   rcases e3.h with ⟨rfl, rfl⟩ | rfl
   ·exact .nx ⟨(0, []), rfl, go⟩
   ·exact .nx ⟨(1, s3), rfl, go⟩
  ·show Nx (V6 Stp.next Stp.exit Stp.fail _ _) _ _
   simp only [V6, l9, o2, hn]
   rw [btD (o5 hj), e1, e2]
   rcases e3.h with ⟨rfl, rfl⟩ | rfl
   ·exact .nx ⟨(0, []), rfl, go⟩
   ·exact .nx ⟨(1, s3), rfl, go⟩
 ·obtain ⟨h, o⟩ := x
  obtain ⟨hx, h48⟩ := hx
  simp only at hx
  have h2 := hx.more (show m + 100 * j ≤ m + 5000 by omega)
  rcases hx.h with ⟨rfl, rfl⟩ | rfl
  ·refine ⟨1, ?_, rfl, h2, rfl⟩
   show V5 Stp.next Stp.exit Stp.fail _ _ = _
   simp only [V5]
   rw [bfD (by omega)]
  ·refine ⟨2, ?_, rfl, h2, rfl⟩
   show V6 Stp.next Stp.exit Stp.fail _ _ = _
   simp only [V6]
   rw [bfD (by omega)]
theorem Yd4 (l : List V3) (hl : l.length ≤ 48) :
  ∃ t s, lp (Ha7 ⟨⟩) ⟨0, l, 0, []⟩ = (t, s) ∧ (t = s.ph + 1 ∧ Fc s.ph s.ba5 250000) := by
 refine Ba0 (step := Ha7 ⟨⟩) (mk := fun j (x : Nat × List Pln) => (⟨x.1, l, (j : Int), x.2⟩ : G2)) l.length (fun j x => Fc x.1 x.2 (5000 * j) ∧ j ≤ 48) (fun t s => t = s.ph + 1 ∧ Fc s.ph s.ba5 250000) (by omega) (fun j x hj hx => ?_) (fun j x hj hx => ?_) 0 (0, []) ⟨⟨.inl ⟨rfl, rfl⟩, Nat.le_refl _⟩, by omega⟩
 ·obtain ⟨h, o⟩ := x
  obtain ⟨hx, _⟩ := hx
  have hn := p6 hj (show l.length ≤ 4611686018427387904 by omega)
  simp only at hx
  obtain ⟨t, s, e1, e2, e3, e4⟩ := Yd3 l hl j hj h o (5000 * j) (by omega) hx
  obtain ⟨s1, s2, s3, s4⟩ := s
  simp only at e2 e3 e4
  subst e4
  have go : Fc s1 s4 (5000 * (j + 1)) ∧ j + 1 ≤ 48 := ⟨e3.more (by omega), by omega⟩
  rcases hx.h with ⟨rfl, rfl⟩ | rfl
  ·show Nx (V7 Stp.next Stp.exit Stp.fail ⟨⟩ _) _ _
   simp only [V7, l9, o2, hn]
   rw [btD (o5 hj), e1, e2]
   rcases e3.h with ⟨rfl, rfl⟩ | rfl
   ·exact .nx ⟨(0, []), rfl, go⟩
   ·exact .nx ⟨(1, s4), rfl, go⟩
  ·show Nx (V8 Stp.next Stp.exit Stp.fail ⟨⟩ _) _ _
   simp only [V8, l9, o2, hn]
   rw [btD (o5 hj), e1, e2]
   rcases e3.h with ⟨rfl, rfl⟩ | rfl
   ·exact .nx ⟨(0, []), rfl, go⟩
   ·exact .nx ⟨(1, s4), rfl, go⟩
 ·obtain ⟨h, o⟩ := x
  obtain ⟨hx, h48⟩ := hx
  simp only at hx
  have h2 := hx.more (show 5000 * j ≤ 250000 by omega)
  rcases hx.h with ⟨rfl, rfl⟩ | rfl
  ·refine ⟨1, ?_, rfl, h2⟩
   show V7 Stp.next Stp.exit Stp.fail ⟨⟩ _ = _
   simp only [V7]
   rw [bfD (by omega)]
  ·refine ⟨2, ?_, rfl, h2⟩
   show V8 Stp.next Stp.exit Stp.fail ⟨⟩ _ = _
   simp only [V8]
   rw [bfD (by omega)]
theorem ke3 (l : List Pln) (n : Int) : (two (r1L tP) r1I).rd (.tup [eL tP l, i n], []) = some (l, n) := by
 have h : (r1L tP).rd [] (eL tP l) = some l := by
  show Bool.rec (motive := fun _ => Option (List Pln)) none (some (rt tP l)) (Bool.and (Nat.beq tP.es tP.es) (okE tP l)) = _
  rw [l9, G3, Nat.beq_refl]
  rfl
 simp only [two, h]
 rfl
theorem jd1 (l : List V3) (hl : l.length ≤ 48) : Rd (two (r1L tP) r1I) (Qa4 l) (fun r => r.1.length ≤ 250000) := by
 obtain ⟨t, s, e1, e2, e3⟩ := Yd4 l hl
 unfold Qa4
 simp only [l9, o2, G3, Ed5 l (show l.length ≤ 1000000000 by omega), o8]
 refine Rd.sl (fun _ => ⟨_, ([], Cb4 l), rfl, rfl, Nat.zero_le _⟩) fun _ => ?_
 rw [e1, e2]
 obtain ⟨s1, s2, s3, s4⟩ := s
 simp only at e3 ⊢
 rcases e3.h with ⟨rfl, rfl⟩ | rfl
 ·exact ⟨_, ([], 0), rfl, rfl, Nat.zero_le _⟩
 ·exact ⟨_, (s4, 0), rfl, ke3 s4 0, e3.l⟩
theorem Yd5 (l : List V3) (hl : l.length ≤ 48) : Da5 l = true := (jd1 l hl).g
theorem Yd6 (l : List V3) (hl : l.length ≤ 48) : (ib0 l).1.length ≤ 250000 := (jd1 l hl).p
def phV (out : List V3) : Nat := match out with
 | [] => 0
 | _ :: _ => 1
theorem Yd7 (out : List V3) (x : V3) : phV (out ++ [x]) = 1 := by cases out <;> rfl
theorem jd2 (l : List V3) (x1 x2 x3 : Int) : app (bL tV l) [[i x1, i x2, i x3]] = bL tV (l ++ [⟨x1, x2, x3⟩]) := Ba9 tV l [⟨x1, x2, x3⟩]
theorem te1 {l : List V3} {m : Nat} (h : m < l.length) : (((Nat.blt (0 + m) (len (bL tV l))) && (Nat.ble (0 + 3) (len (d9 (bL tV l) (0 + m))))) && (I0 [(CK.int .i64), (CK.int .i64), (CK.int .i64)] (d8 (d9 (bL tV l) (0 + m)) 0))) = true := by
 rw [Nat.zero_add, Q9 tV h, I5, show Nat.blt m l.length = true from by rw [Nat.blt_eq]; exact h]
 rfl
theorem te2 {l : List V3} {m : Nat} (h : m < l.length) : (((Nat.blt (0 + m) (len (bL tV l))) && (Nat.ble (2 + 1) (len (d9 (bL tV l) (0 + m))))) && (I0 [(CK.int .i64)] (d8 (d9 (bL tV l) (0 + m)) 2))) = true := by
 rw [Nat.zero_add, Q9 tV h, I5, show Nat.blt m l.length = true from by rw [Nat.blt_eq]; exact h]
 rfl
theorem te3 {n : Nat} {l : List V3} (hn : l.length = n) (h : n ≤ 1000000000) : (Nat.beq n (len (bL tV l)) && Nat.ble ((n + 1) * 24) room) = true := by
 subst hn
 rw [I5, Nat.beq_refl, Bool.true_and, Nat.ble_eq]
 unfold room
 omega
theorem Yd8 (x : List Int) (N : Nat) (h4 : 4 ≤ N) (h8 : N ≤ 8) (j0 : Int) (hj0 : 0 ≤ j0 ∧ j0 ≤ 10) :
  ∃ idx out, lp (Aa9 ⟨(N : Int)⟩) ⟨0, 0, x, j0, 0, []⟩ = (2, ⟨1, (N : Int), x, idx, N, bL tV out⟩) ∧ out.length = N := by
 have key := Ba0 (step := Aa9 ⟨(N : Int)⟩) (mk := fun j (a : Int × List V3) => (⟨phV a.2, (j : Int), x, a.1, a.2.length, bL tV a.2⟩ : y7)) N
  (fun j a => a.2.length = j ∧ 0 ≤ a.1 ∧ a.1 ≤ 10 + 4 * j ∧ j ≤ N) (fun t s => t = 2 ∧ ∃ idx out, s = ⟨1, (N : Int), x, idx, N, bL tV out⟩ ∧ out.length = N) (by omega) (fun j a hj ha => ?_) (fun j a hj ha => ?_) 0 (j0, []) ⟨rfl, hj0.1, by omega, by omega⟩
 ·obtain ⟨t, s, e1, rfl, idx, out, e2, e3⟩ := key
  exact ⟨idx, out, by rw [← e2]; exact e1, e3⟩
 ·obtain ⟨at0, out⟩ := a
  obtain ⟨ho, ha1, ha2, _⟩ := ha
  simp only at ho ha1 ha2
  have hn := p6 hj (show N ≤ 4611686018427387904 by omega)
  obtain ⟨v1, j1, d1, _, _, c1, b1⟩ := qa5 17 x at0 ha1 (by omega) (by omega) (by omega)
  obtain ⟨v2, j2, d2, _, _, c2, b2⟩ := qa5 17 x j1 (by omega) (by omega) (by omega) (by omega)
  obtain ⟨v3, j3, d3, _, _, c3, b3⟩ := qa5 17 x j2 (by omega) (by omega) (by omega) (by omega)
  obtain ⟨v4, j4, d4, _, _, c4, b4⟩ := qa5 6 x j3 (by omega) (by omega) (by omega) (by omega)
  have leaf : ∀ (E : Nat → Prop) (x1 x2 x3 : Int), Nx (.next (⟨1, ((j + 1 : Nat) : Int), x, j4, j + 1, bL tV (out ++ [⟨x1, x2, x3⟩])⟩ : y7)) E
    (fun s => ∃ a' : Int × List V3, s = ⟨phV a'.2, ((j + 1 : Nat) : Int), x, a'.1, a'.2.length, bL tV a'.2⟩ ∧ a'.2.length = j + 1 ∧ 0 ≤ a'.1 ∧ a'.1 ≤ 10 + 4 * ((j + 1 : Nat) : Int) ∧ j + 1 ≤ N) := fun E x1 x2 x3 => by
   have hl : (out ++ [(⟨x1, x2, x3⟩ : V3)]).length = j + 1 := by simp [ho]
   exact .nx ⟨(j4, out ++ [⟨x1, x2, x3⟩]), by simp only [Yd7, hl], hl, by show 0 ≤ j4; omega, by show j4 ≤ _; omega, by omega⟩
  cases out with
  | nil =>
   have hj0' : j = 0 := by simpa using ho.symm
   subst hj0'
   show Nx (ia9 Stp.next Stp.exit Stp.fail _ _) _ _
   simp only [ia9, l9, o2, d1, d2, d3, d4, hn]
   rw [btD (o5 hj)]
   have f1 : decide (((0 : Nat) : Int) > 1) = false := rfl
   have f2 : decide (((0 : Nat) : Int) > 0) = false := rfl
   have f3 : decide (((0 : Nat) : Int) > 2) = false := rfl
   have lf : ∀ (E : Nat → Prop) (x1 x2 x3 : Int), Nx (.next (⟨1, ((0 + 1 : Nat) : Int), x, j4, 1, [[i x1, i x2, i x3]]⟩ : y7)) E _ := leaf
   simp only [f1, f2, f3, xa6, Nat.beq_refl, Bool.and_true, o8]
   refine Nx.sl (fun _ => ?_) (fun _ => ?_) <;> refine Nx.sl (fun _ => ?_) (fun _ => ?_)
   all_goals first
    | exact lf _ _ _ _
    | (refine Nx.sl (fun _ => ?_) (fun _ => ?_) <;> exact lf _ _ _ _)
  | cons o os =>
   have h1 : 1 ≤ j := by simp only [List.length_cons] at ho; omega
   generalize hO : o :: os = O at *
   have hph : phV O = 1 := by subst hO; rfl
   have w1 : W ((j : Int) - 1) = ((j - 1 : Nat) : Int) := by rw [Ca0 (by omega) (by omega)]; omega
   have i1 : inB ((j - 1 : Nat) : Int) j = true := f9 (by omega)
   have r1 := te1 (l := O) (m := j - 1) (by omega)
   have r1' := te2 (l := O) (m := j - 1) (by omega)
   have rr := te3 ho (by omega)
   have f2 : ∀ {inst : Decidable ((j : Int) > 0)}, @decide ((j : Int) > 0) inst = true := decide_eq_true (by omega)
   show Nx (sel (Nat.beq (phV O) 1) (G7 Stp.next Stp.exit Stp.fail _ _) _) _ _
   rw [hph]
   show Nx (G7 Stp.next Stp.exit Stp.fail _ _) _ _
   by_cases h2 : 2 ≤ j
   ·have w2 : W ((j : Int) - 2) = ((j - 2 : Nat) : Int) := by rw [Ca0 (by omega) (by omega)]; omega
    have i2 : inB ((j - 2 : Nat) : Int) j = true := f9 (by omega)
    have r2 := te1 (l := O) (m := j - 2) (by omega)
    simp only [G7, l9, o2, d1, d2, d3, d4, hn, ho, w1, w2, i1, i2, Int.toNat_natCast, r1, r1', r2, rr, jd2]
    rw [btD (o5 hj)]
    simp only [Nat.beq_refl, Bool.and_true, o8]
    repeat' (first | exact leaf _ _ _ _ | refine Nx.sl (fun _ => ?_) (fun _ => ?_))
   ·have hj1 : j = 1 := by omega
    subst hj1
    simp only [G7, l9, o2, d1, d2, d3, d4, hn, ho, w1, i1, Int.toNat_natCast, r1, r1', rr, jd2]
    have f1 : decide (((1 : Nat) : Int) > 1) = false := rfl
    rw [btD (o5 hj)]
    simp only [f1, xa6, Nat.beq_refl, Bool.and_true, o8]
    repeat' (first | exact leaf _ _ _ _ | refine Nx.sl (fun _ => ?_) (fun _ => ?_))
 ·obtain ⟨at0, out⟩ := a
  obtain ⟨ho, ha1, ha2, hjN⟩ := ha
  simp only at ho ha1 ha2
  have hj' : j = N := by omega
  subst hj'
  cases out with
  | nil => simp only [List.length_nil] at ho; omega
  | cons o os =>
   refine ⟨2, ?_, rfl, at0, o :: os, by rw [ho]; rfl, ho⟩
   show G7 Stp.next Stp.exit Stp.fail _ _ = _
   simp only [G7]
   rw [bfD (by omega)]
theorem Od5 {l : List V3} {n : Nat} {r : List (List b7)} {P : List V3 → Prop} (hn : n = l.length) (hr : r = bL tV l) (h : P l) : Rd (one (r1L tV)) (some (.sl 0 0 n 0, [⟨36, 3, r, true, false, 0⟩])) P := by
 subst hn hr
 refine ⟨_, l, rfl, ?_, h⟩
 show Bool.rec (motive := fun _ => Option (List V3)) none (some (slR tV (bL tV l) 0 l.length)) (Bool.and true (okS tV (bL tV l) 0 l.length)) = _
 rw [zb0, zb1]
 rfl
theorem Nc1 (x : List Int) : Rd (one (r1L tV)) (Ha8 x) (fun r => 4 ≤ r.length ∧ r.length ≤ 8) := by
 obtain ⟨v, j, e1, a1, b1, c1, d1⟩ := qa5 5 x 0 (by omega) (by omega) (by omega) (by omega)
 have hN : W (4 + v) = (((4 + v).toNat : Nat) : Int) := by rw [Ca0 (by omega) (by omega)]; omega
 obtain ⟨idx, out, e2, e3⟩ := Yd8 x (4 + v).toNat (by omega) (by omega) j (by omega)
 unfold Ha8
 simp only [l9, o2, e1, hN, e2]
 have h4 : 4 ≤ (4 + v).toNat := by omega
 have h8 : (4 + v).toNat ≤ 8 := by omega
 generalize (4 + v).toNat = N at *
 have s1 : lsL tV N (fun k => d9 (bL tV out) (0 + k)) = out := by rw [← e3]; exact zb0 tV out
 have s2 : okL tV N (fun k => d9 (bL tV out) (0 + k)) = true := by rw [← e3]; exact zb1 tV out
 have gf : La6 out = true := Od2 out (by omega)
 rw [s1, s2, gf]
 simp only [Nat.beq_refl, Bool.and_true, o8, show Nat.beq 2 1 = false from rfl, xa6]
 refine Rd.sl (fun _ => ?_) fun _ => Od5 e3.symm rfl ⟨by omega, by omega⟩
 have i0 : inB 0 N = true := f9 (j := 0) (by omega)
 have i1 : inB 1 N = true := f9 (j := 1) (by omega)
 have i2 : inB 2 N = true := f9 (j := 2) (by omega)
 have i3 : inB 3 N = true := f9 (j := 3) (by omega)
 have sp : ∀ (v : V3) (x1 x2 x3 : Int), I1 (tV.row v) 0 [i x1, i x2, i x3] = tV.row ⟨x1, x2, x3⟩ := fun _ _ _ _ => rfl
 have rl : ∀ v : V3, Nat.ble (0 + 3) (len (tV.row v)) = true := fun _ => rfl
 have ck : ∀ v : V3, I0 [(CK.int .i64), (CK.int .i64), (CK.int .i64)] (d8 (tV.row v) 0) = true := fun _ => rfl
 have gr : ∀ (l : List V3) (k : Nat), l.length = N → k < 4 → d9 (bL tV l) k = tV.row (gL tV l k) := fun l k hl hk => Q9 tV (by omega)
 have bl : ∀ (l : List V3) (k : Nat), l.length = N → k < 4 → Nat.blt k (len (bL tV l)) = true := fun l k hl hk => by rw [I5, Nat.blt_eq]; omega
 have ls : ∀ (l : List V3) (k : Nat) (v : V3), l.length = N → (l.set k v).length = N := fun l k v hl => by rw [List.length_set]; exact hl
 rw [gr out 0 e3 (by omega), gr out 1 e3 (by omega)]
 simp only [sp, mb4]
 rw [gr _ 2 (ls out 1 _ e3) (by omega)]
 simp only [sp, mb4]
 rw [gr _ 3 (ls _ 2 _ (ls out 1 _ e3)) (by omega)]
 simp only [sp, mb4, rl, ck, i0, i1, i2, i3, bl out 0 e3 (by omega), bl out 1 e3 (by omega), bl _ 2 (ls out 1 _ e3) (by omega), bl _ 3 (ls _ 2 _ (ls out 1 _ e3)) (by omega), Bool.and_true, o8]
 exact Od5 (by simp only [List.length_set]; omega) rfl (by simp only [List.length_set]; omega)
theorem Od6 (x : List Int) : Ha9 x = true := (Nc1 x).g
theorem Od7 (x : List Int) : 4 ≤ (la7 x).length ∧ (la7 x).length ≤ 8 := (Nc1 x).p
end Go.Ev.Ce
namespace Go.Ev.Ce
open Go Go.Ev Go.Ev.L Go.Proofs
theorem Od8 {l : List Pln} {P : List Pln → Prop} (h : P l) : Rd (one (r1L tP)) (some (eL tP l, [])) P := ⟨_, l, rfl, wd4 tP l, h⟩
theorem xd6 (x : List Int) : Rd (one (r1L tP)) (cb4 x) (fun r => r.length ≤ 250000) := by
 obtain ⟨v1, j1, e1, a1, b1, c1, d1⟩ := qa5 4 x 0 (by omega) (by omega) (by omega) (by omega)
 obtain ⟨w1, w2, w3, j2, e2, p1, p2, p3, c2, d2⟩ := Wc0 6 x j1 (by omega) (by omega) (by omega) (by omega)
 obtain ⟨v3, j3, e3, a3, b3, c3, d3⟩ := qa5 6 x j2 (by omega) (by omega) (by omega) (by omega)
 obtain ⟨v4, j4, e4, a4, b4, c4, d4⟩ := qa5 6 x j3 (by omega) (by omega) (by omega) (by omega)
 obtain ⟨v5, j5, e5, a5, b5, c5, d5⟩ := qa5 6 x j4 (by omega) (by omega) (by omega) (by omega)
 have hin : inB (if 7 < (x.length : Int) then 7 else (x.length : Int)) (x.length + 1) = true := by
  rw [oc0]
  apply decide_eq_true
  split <;> omega
 have hok : ∀ n m, okL tI n (fun k => (fun k => tI.row (gL tI x k)) (m + k)) = true := fun n m => ib9 tI (f := fun k => gL tI x (m + k)) fun _ _ => rfl
 unfold cb4
 simp only [l9, o2, G3, e1, e2, e3, e4, e5, de6, de7, hin, hok, Na2, Xd9, Od6, Nat.beq_refl, Bool.and_true, o8]
 generalize hL : lsL tI _ _ = L
 generalize hB : Md3 _ _ = B
 have hB6 : B.length = 6 := by rw [← hB]; rfl
 have hl6 : len (bL tP B) = 6 := by rw [I5, hB6]
 have ea : app [] (bL tP B) = bL tP B := rfl
 have es : ∀ q : Pln, slR tP (bL tP (B ++ [q])) 0 (0 + 6 + 1) = B ++ [q] := fun q => by
  have := zb0 tP (B ++ [q])
  rw [List.length_append, hB6] at this
  exact this
 have eo : ∀ q : Pln, okS tP (bL tP (B ++ [q])) 0 (0 + 6 + 1) = true := fun q => by
  have := zb1 tP (B ++ [q])
  rw [List.length_append, hB6] at this
  exact this
 have gF : ∀ q : Pln, Ca2 (B ++ [q]) = true := fun q => wd9 (by rw [List.length_append, hB6]; exact (by decide : 6 + 1 ≤ 1000000000))
 have q1 : Nat.ble ((0 + 6) * 32) room = true := ba6 (by omega)
 have q2 : Nat.ble (((0 + 6) + 1) * 32) room = true := ba6 (by omega)
 have q3 : Nat.beq (0 + 6) 6 = true := rfl
 have hp := Od7 L
 have gf : Da5 (la7 L) = true := Yd5 _ (by omega)
 have pf := Yd6 (la7 L) (by omega)
 simp only [hl6, ea, Xb2, es, eo, gF, q1, q2, q3, Bool.and_self, gf, o8, show Nat.beq 6 0 = false from rfl, xa6]
 have box : Rd (one (r1L tP)) (some (eL tP B, [])) (fun r => r.length ≤ 250000) := Od8 (by rw [hB6]; omega)
 have fcs : Rd (one (r1L tP)) (some (eL tP (ib0 (la7 L)).1, [])) (fun r => r.length ≤ 250000) := Od8 pf
 exact Rd.sl (fun _ => Rd.sl (fun _ => tb4 (by rw [List.length_append, hB6]; rfl) rfl (by rw [List.length_append, hB6]; exact (by decide : 6 + 1 ≤ 250000))) fun _ => Rd.sl (fun _ => Rd.sl (fun _ => fcs) fun _ => box) fun _ => box) fun _ => Rd.sl (fun _ => Rd.sl (fun _ => fcs) fun _ => box) fun _ => box
theorem Od9 (x : List Int) : tb0 x = true := (xd6 x).g
theorem sd1 (x : List Int) : (D9 x).length ≤ 250000 := (xd6 x).p
theorem Xb3 {l : List Pln} {k : Nat} (h : k < l.length) : ldR tP (bL tP l) (0 + k) = true := by rw [Nat.zero_add]; exact Qc6 tP h
theorem Gb6 {l : List Pln} {k : Nat} (h : k < l.length) : rdR tP (bL tP l) (0 + k) = gL tP l k := by rw [Nat.zero_add]; exact Qc5 tP h
theorem Pd0 {l : List Pln} {n : Nat} {r : List (List b7)} {P : List Pln → Prop} (hn : n ≤ l.length) (hr : r = bL tP l) (h : P (l.take n)) : Rd (one (r1L tP)) (some (.sl 0 0 n 0, [⟨50, 4, r, true, false, 0⟩])) P := by
 subst hr
 have e1 : slR tP (bL tP l) 0 n = l.take n := sc4 tP (by rw [List.length_take]; omega) fun k hk => by
  rw [Nat.zero_add, Q9 tP (by omega)]
  congr 1
  simp [gL, List.getD_eq_getElem?_getD, List.getElem?_take, hk]
 have e2 : okS tP (bL tP l) 0 n = true := ib9 tP (f := fun k => gL tP l k) fun k hk => by rw [Nat.zero_add, Q9 tP (by omega)]
 refine ⟨_, l.take n, rfl, ?_, h⟩
 show Bool.rec (motive := fun _ => Option (List Pln)) none (some (slR tP (bL tP l) 0 n)) (Bool.and true (okS tP (bL tP l) 0 n)) = _
 rw [e1, e2]
 rfl
theorem Pd1 (k : Nat) (l : List Pln) (hk : k < l.length) : ∃ s : ka9, lp (Ia1 ⟨(k : Int)⟩) ⟨l.length, bL tP l⟩ = (1, s) ∧ ∃ out : List Pln, s = ⟨out.length, bL tP out⟩ ∧ out.length ≤ l.length + 49 := by
 have key := zb4 (step := Ia1 ⟨(k : Int)⟩) (I := fun m s => ∃ out : List Pln, s = ⟨out.length, bL tP out⟩ ∧ k < out.length ∧ (out.length ≤ 49 ∨ out = l) ∧ m = 49 - out.length) (Q := fun t s => t = 1 ∧ ∃ out : List Pln, s = ⟨out.length, bL tP out⟩ ∧ out.length ≤ l.length + 49) (fun m s ⟨out, hs, hk, ho, hm⟩ => by
  subst hs
  simp only [Ia1, Ma6, Int.toNat_natCast, Xb3 hk, Gb6 hk, f9 hk, o8, Xb2]
  by_cases h : (out.length : Int) ≤ 48
  ·rw [btD h, I5, Nat.beq_refl, ba6 (by omega)]
   refine .inr ⟨_, 49 - (out.length + 1), by omega, rfl, out ++ [gL tP out k], by rw [List.length_append]; rfl, by rw [List.length_append]; omega, .inl (by rw [List.length_append]; simp only [List.length_singleton]; omega), by rw [List.length_append]; rfl⟩
  ·rw [bfD h]
   exact .inl ⟨1, rfl, rfl, out, rfl, by rcases ho with ho | rfl <;> omega⟩) (49 - l.length) ⟨l.length, bL tP l⟩ (by omega) ⟨l, rfl, hk, .inr rfl, rfl⟩
 exact ⟨_, Prod.ext key.1 rfl, key.2⟩
theorem ke4 (p : Pln) (v : V3) : Rd (one r1P) (nb9 p v) (fun _ => True) := by
 have h1 := Int.emod_nonneg v.z (show (9 : Int) ≠ 0 by omega)
 have h2 := Int.emod_lt_of_pos v.z (show (0 : Int) < 9 by omega)
 unfold nb9
 simp only [zc5 _ (show (0 : Int) < 9 by omega) (by omega), zc5 _ (show (0 : Int) < 5 by omega) (by omega), xd1 _ (show (0 : Int) < 9 by omega) (by omega), xd1 _ (show (0 : Int) < 5 by omega) (by omega)]
 have hin : inB (v.z % 9) 9 = true := by rw [oc0]; exact decide_eq_true (by omega)
 have hck : ∀ (x1 x2 x3 x4 x5 x6 x7 x8 x9 : Int) (k : Nat), k < 9 → ((Nat.ble 1 (len (d9 [[(i x1)], [(i x2)], [(i x3)], [(i x4)], [(i x5)], [(i x6)], [(i x7)], [(i x8)], [(i x9)]] (0 + k)))) && (I0 [(CK.int .i64)] (d9 [[(i x1)], [(i x2)], [(i x3)], [(i x4)], [(i x5)], [(i x6)], [(i x7)], [(i x8)], [(i x9)]] (0 + k)))) = true := by
  intro x1 x2 x3 x4 x5 x6 x7 x8 x9 k hk
  match k, hk with
  | 0, _ => rfl
  | 1, _ => rfl
  | 2, _ => rfl
  | 3, _ => rfl
  | 4, _ => rfl
  | 5, _ => rfl
  | 6, _ => rfl
  | 7, _ => rfl
  | 8, _ => rfl
 rw [hin, hck _ _ _ _ _ _ _ _ _ _ (by omega)]
 simp only [o8]
 exact Rd.sl (fun _ => ⟨_, _, rfl, rfl, trivial⟩) fun _ => Rd.sl (fun _ => ⟨_, _, rfl, rfl, trivial⟩) fun _ => Rd.sl (fun _ => ⟨_, _, rfl, rfl, trivial⟩) fun _ => Rd.sl (fun _ => ⟨_, _, rfl, rfl, trivial⟩) fun _ => Rd.sl (fun _ => ⟨_, _, rfl, rfl, trivial⟩) fun _ => ⟨_, _, rfl, rfl, trivial⟩
theorem ke5 (p : Pln) (v : V3) : dc8 p v = true := (ke4 p v).g
theorem Pd2 (x : List Pln) (y : V3) (hx : x.length ≤ 1000000) : Rd (one (r1L tP)) (ob2 x y) (fun r => r.length ≤ x.length + 50) := by
 have ea : app [] (bL tP x) = bL tP x := rfl
 have one0 : Rd (one (r1L tP)) (some (.sl 0 0 1 0, [⟨50, 4, [[(i 0), (i 0), (i 0), (i 0)]], true, false, 0⟩])) (fun r => r.length ≤ x.length + 50) := tb4 (l := [⟨⟨0, 0, 0⟩, 0⟩]) rfl rfl (by simp only [List.length_singleton]; omega)
 unfold ob2
 simp only [Na2, ea, I5, Nat.zero_add]
 by_cases h0 : x.length = 0
 ·rw [show Nat.beq x.length 0 = true from by rw [h0]; rfl]
  exact one0
 ·have z0 : Nat.beq x.length 0 = false := by
   cases h : Nat.beq x.length 0 with
   | false => rfl
   | true => exact absurd (Nat.eq_of_beq_eq_true h) h0
  have zi : ((x.length : Int) == 0) = false := by rw [beq_eq_false_iff_ne]; omega
  have hk1 := Int.emod_nonneg y.y (show (x.length : Int) ≠ 0 by omega)
  have hk2 := Int.emod_lt_of_pos y.y (show (0 : Int) < (x.length : Int) by omega)
  rw [z0, zi, xd1 y.y (show (0 : Int) < (x.length : Int) by omega) (by omega), zc5 y.y (show (0 : Int) < (x.length : Int) by omega) (by omega), zc5 y.x (show (0 : Int) < 6 by omega) (by omega), zc5 y.z (show (0 : Int) < 9 by omega) (by omega)]
  obtain ⟨k, hk⟩ := Int.eq_ofNat_of_zero_le hk1
  rw [hk] at hk2 ⊢
  have hkx : k < x.length := by omega
  have i1 : inB (k : Int) x.length = true := f9 hkx
  have i2 : inB (k : Int) (x.length + 1) = true := f9 (by omega)
  have w1 : W ((k : Int) + 1) = ((k + 1 : Nat) : Int) := p6 hkx (by omega)
  have i3 : inB ((k + 1 : Nat) : Int) (x.length + 1) = true := f9 (by omega)
  have hrow : d9 (bL tP x) k = tP.row (gL tP x k) := Q9 tP hkx
  have hb : Nat.blt k x.length = true := by rw [Nat.blt_eq]; exact hkx
  have hld : ldR tP (bL tP x) k = true := Qc6 tP hkx
  have hrd : rdR tP (bL tP x) k = gL tP x k := Qc5 tP hkx
  have sp : ∀ (v : Pln) (x1 x2 x3 x4 : Int), I1 (tP.row v) 0 [i x1, i x2, i x3, i x4] = tP.row ⟨⟨x1, x2, x3⟩, x4⟩ := fun _ _ _ _ _ => rfl
  have sp3 : ∀ (v : Pln) (x4 : Int), I1 (tP.row v) 3 [i x4] = tP.row ⟨v.n, x4⟩ := fun _ _ => rfl
  have rl : ∀ v : Pln, Nat.ble 4 (len (tP.row v)) = true := fun _ => rfl
  have rl3 : ∀ v : Pln, Nat.ble (3 + 1) (len (tP.row v)) = true := fun _ => rfl
  have ck3 : ∀ v : Pln, I0 [(CK.int .i64)] (d8 (tP.row v) 3) = true := fun _ => rfl
  have b0 : Nat.ble (x.length * 32) room = true := ba6 (by omega)
  have b1 : Nat.ble ((x.length + 1) * 32) room = true := ba6 (by omega)
  obtain ⟨s, l1, out, l2, l3⟩ := Pd1 k x hkx
  have cutL : D6 (d8 (bL tP x) (k + 1)) (x.length - (k + 1)) = bL tP (x.drop (k + 1)) := by
   have hl : (bL tP x).length = x.length := by rw [← l6, I5]
   rw [B8, B9, List.take_of_length_le (by rw [List.length_drop, hl]; omega)]
   unfold bL
   rw [l8, l8, List.map_drop]
  have cutT : D6 (bL tP x) (k - 0) = bL tP (x.take k) := by
   unfold bL
   rw [B8, l8, l8, List.map_take, Nat.sub_zero]
  have cutD : ∀ n, d8 (bL tP x) n = bL tP (x.drop n) := fun n => by
   unfold bL
   rw [B9, l8, l8, List.map_drop]
  simp only [Int.toNat_natCast, i1, i2, w1, i3, hrow, hb, hld, hrd, sp, sp3, rl, rl3, ck3, b0, b1, Nat.beq_refl, Bool.and_self, Bool.and_true, o8, xa6, ke5, mb4, Xb2, l1, l2, cutL]
  refine Rd.sl (fun _ => tb4 (by rw [List.length_set]) rfl (by rw [List.length_set]; omega)) fun _ => Rd.sl (fun _ => ?_) fun _ => Rd.sl (fun _ => tb4 (by rw [List.length_set]) rfl (by rw [List.length_set]; omega)) fun _ =>
   Rd.sl (fun _ => tb4 (by rw [List.length_append]; rfl) rfl (by rw [List.length_append]; simp only [List.length_singleton]; omega)) fun _ => Rd.sl (fun _ => tb4 (by rw [List.length_set]) rfl (by rw [List.length_set]; omega)) fun _ =>
   Rd.sl (fun _ => tb4 rfl rfl (by omega)) fun _ => tb4 rfl rfl (by omega)
  rw [cutT, cutD, I5, Ba9, Ba9, List.length_drop, bt (by rw [Nat.ble_eq]; omega)]
  refine Pd0 ?_ rfl ?_
  ·simp only [List.length_append, List.length_take, List.length_drop]; omega
  ·rw [List.length_take]; simp only [List.length_append, List.length_take, List.length_drop]; omega
theorem ee4 (x : List Pln) (y : V3) (hx : x.length ≤ 1000000) : ob3 x y = true := (Pd2 x y hx).g
theorem Pd3 (x : List Pln) (y : V3) (hx : x.length ≤ 1000000) : (ca9 x y).length ≤ x.length + 50 := (Pd2 x y hx).p
theorem Pd4 (x : List Pln) : Rd (one (r1L tP)) (Qa5 x) (fun r => r.length ≤ 8) := by
 have hin : inB (if 8 < (x.length : Int) then 8 else (x.length : Int)) (x.length + 1) = true := by
  rw [oc0]
  apply decide_eq_true
  split <;> omega
 unfold Qa5
 rw [hin, o8]
 refine ⟨_, lsL tP ((if 8 < (x.length : Int) then 8 else (x.length : Int)).toNat - 0) (fun k => (fun k => tP.row (gL tP x k)) (0 + k)), rfl, ?_, by show (lsL tP _ _).length ≤ 8; rw [Qc4]; split <;> omega⟩
 show Bool.rec (motive := fun _ => Option (List Pln)) none (some _) (Bool.and (Nat.beq 4 4) (okL tP _ _)) = _
 rw [ib9 tP (f := fun k => gL tP x (0 + k)) fun _ _ => rfl]
 rfl
theorem te4 (x : List Pln) : Cb7 x = true := (Pd4 x).g
theorem te5 (x : List Pln) : (Qa6 x).length ≤ 8 := (Pd4 x).p
end Go.Ev.Ce
