/- What the loops over lists of entries come to (own work). -/
import Derived.Test.YtblhkhjdkjjheaaEvX1
set_option linter.unusedVariables false
set_option linter.unusedSimpArgs false
set_option linter.unnecessarySimpa false
set_option linter.unusedSectionVars false
namespace Go.Ev.W.X
open Go Go.Ev Go.Ev.W Go.Proofs
set_option maxRecDepth 100000
deriving instance DecidableEq for Go.Ev.W.Ent
/-! ### small facts -/
theorem W_eq (n : Int) : W n = (n + 9223372036854775808) % 18446744073709551616 - 9223372036854775808 := IntKind.wrap_i64 n
theorem W_id {n : Int} (h1 : -9223372036854775808 ≤ n) (h2 : n ≤ 9223372036854775807) : W n = n := by rw [W_eq]; omega
theorem W_next {j n : Nat} (h : j < n) (hn : n ≤ 4611686018427387904) : W ((j : Int) + 1) = ((j + 1 : Nat) : Int) := by
  rw [W_id (by omega) (by omega)]
  rfl
theorem W_prev {j : Nat} (h : 0 < j) (hn : j ≤ 4611686018427387904) : W ((j : Int) - 1) = ((j - 1 : Nat) : Int) := by
  rw [W_id (by omega) (by omega)]
  omega
theorem dec_lt {j n : Nat} (h : j < n) : decide ((j : Int) < (n : Int)) = true := decide_eq_true (by omega)
theorem dec_nlt {j n : Nat} (h : n ≤ j) : decide ((j : Int) < (n : Int)) = false := decide_eq_false (by omega)
theorem inB_nat {j n : Nat} (h : j < n) : inB (j : Int) n = true := by
  show Nat.blt j n = true
  rw [Nat.blt_eq]; exact h
theorem sel_l {α : Type} {c : Bool} {x y r : α} (h : c = true) (k : x = r) : sel c x y = r := by rw [h]; exact k
theorem sel_r {α : Type} {c : Bool} {x y r : α} (h : c = false) (k : y = r) : sel c x y = r := by rw [h]; exact k
theorem sel_f {α : Type} (a c : α) : sel false a c = c := rfl
theorem lp_inv {σ : Type} {step : σ → Stp σ} {I : Nat → σ → Prop} {Q : Nat → σ → Prop} (h : ∀ m s, I m s → (∃ t, step s = .exit t ∧ Q t s) ∨ ∃ s' m', m = m' + 1 ∧ step s = .next s' ∧ I m' s') :
    ∀ (m n : Nat) (s : σ), m ≤ n → I m s → Q (lp0 step n s).1 (lp0 step n s).2
  | m, n, s, hn, hi => by
    rcases h m s hi with ⟨t, h1, h2⟩ | ⟨s', m', rfl, h1, h2⟩
    · rw [lp0_exit h1]
      exact h2
    · cases n with
      | zero => omega
      | succ n =>
        rw [lp0_next h1]
        exact lp_inv h m' n s' (by omega) h2
theorem lp_inv2 {σ : Type} {step : σ → Stp σ} {I : Nat → σ → Prop} {Q : Nat → σ → Prop} (h : ∀ m s, I m s → (∃ t, step s = .exit t ∧ Q t s) ∨ ∃ s' m', m = m' + 1 ∧ step s = .next s' ∧ I m' s')
    (m : Nat) (s : σ) (hm : m ≤ 4611686018427387904) (hi : I m s) : Q (lp step s).1 (lp step s).2 := by
  rw [lp_eq]
  exact lp_inv h m rounds s (by unfold rounds; omega) hi
/-! ### the first index with something -/
def ff (q : Nat → Bool) (j : Nat) : Nat → Nat
  | 0 => j
  | m + 1 => match q j with
    | true => j
    | false => ff q (j + 1) m
/-- a loop that looks for an index -/
theorem lp_ff {σ : Type} {step : σ → Stp σ} {enc : Nat → σ} {q : Nat → Bool} {n t1 t2 : Nat} (h1 : ∀ j, j < n → step (enc j) = sel (q j) (.exit t1) (.next (enc (j + 1)))) (h2 : step (enc n) = .exit t2) :
    ∀ (m j r : Nat), j + m = n → m ≤ r → lp0 step r (enc j) = (sel (Nat.blt (ff q j m) n) t1 t2, enc (ff q j m))
  | 0, j, r, hj, hr => by
    have hj : j = n := by omega
    subst hj
    rw [lp0_exit h2]
    show _ = (sel (Nat.blt j j) t1 t2, enc j)
    rw [show Nat.blt j j = false from by cases h : Nat.blt j j with | false => rfl | true => rw [Nat.blt_eq] at h; omega]
  | m + 1, j, 0, hj, hr => by omega
  | m + 1, j, r + 1, hj, hr => by
    have hs := h1 j (by omega)
    cases hq : q j with
    | true =>
      rw [hq] at hs
      rw [lp0_exit hs]
      have : ff q j (m + 1) = j := by unfold ff; rw [hq]
      rw [this, show Nat.blt j n = true from by rw [Nat.blt_eq]; omega]
    | false =>
      rw [hq] at hs
      rw [lp0_next hs, lp_ff h1 h2 m (j + 1) r (by omega) (by omega)]
      have : ff q j (m + 1) = ff q (j + 1) m := by conv => lhs; unfold ff; rw [hq]
      rw [this]
theorem lp_ff2 {σ : Type} {step : σ → Stp σ} {enc : Nat → σ} {q : Nat → Bool} {n t1 t2 : Nat} (h1 : ∀ j, j < n → step (enc j) = sel (q j) (.exit t1) (.next (enc (j + 1)))) (h2 : step (enc n) = .exit t2)
    (j : Nat) (hj : j ≤ n) (hn : n ≤ 4611686018427387904) : lp step (enc j) = (sel (Nat.blt (ff q j (n - j)) n) t1 t2, enc (ff q j (n - j))) := by
  rw [lp_eq]
  exact lp_ff h1 h2 (n - j) j rounds (by omega) (by unfold rounds; omega)
theorem blt_iff {a c : Nat} : Nat.blt a c = decide (a < c) := by
  rw [Bool.eq_iff_iff, Nat.blt_eq]; simp
theorem ff_list {α : Type} {p : α → Bool} {d : α} : ∀ (l : List α) (q : Nat → Bool) (j : Nat), (∀ k, k < l.length → q (j + k) = p (l.getD k d)) →
    ff q j l.length = j + (l.takeWhile fun x => !p x).length ∧ Nat.blt (ff q j l.length) (j + l.length) = l.any p
  | [], q, j, h => ⟨rfl, by simp [ff, blt_iff]⟩
  | x :: l, q, j, h => by
    have h0 : q j = p x := h 0 (by simp)
    cases hp : p x with
    | true =>
      have : ff q j (x :: l).length = j := by show ff q j (l.length + 1) = j; unfold ff; rw [h0, hp]
      rw [this]
      simp [hp, blt_iff]
    | false =>
      have : ff q j (x :: l).length = ff q (j + 1) l.length := by show ff q j (l.length + 1) = _; conv => lhs; unfold ff; rw [h0, hp]
      rw [this]
      have ih := ff_list (p := p) (d := d) l q (j + 1) fun k hk => by
        have := h (k + 1) (by simp; omega)
        rw [show j + 1 + k = j + (k + 1) by omega, this]
        rfl
      rw [ih.1]
      constructor
      · simp [hp]; omega
      · have e : Nat.blt (ff q (j + 1) l.length) (j + (x :: l).length) = Nat.blt (ff q (j + 1) l.length) (j + 1 + l.length) := by congr 1; simp; omega
        rw [← ih.1, e, ih.2]
        simp [hp]
/-! ### keys -/
theorem valid_bad (x : Ent) : p30 x = !p32 x := by
  unfold p30 p32
  rw [Bool.eq_iff_iff]
  simp only [Bool.or_eq_true, Bool.not_eq_true', Bool.and_eq_false_iff, decide_eq_false_iff_not, decide_eq_true_eq]
  omega
def key (a c : Ent) : Bool := a.t == c.t && a.o == c.o
theorem cmp3 (a c : Ent) : p31 a c = sel (p33 a c) (-1) (sel (key a c) 0 1) := by
  unfold p31 p33 key
  simp only [bne_self_eq_false, sel_f]
  by_cases h1 : a.t < c.t
  · rw [decide_eq_true h1]; rfl
  · rw [decide_eq_false h1]
    by_cases h2 : a.t > c.t
    · rw [decide_eq_true h2, show (a.t == c.t) = false from beq_eq_false_iff_ne.2 (by omega)]; rfl
    · rw [decide_eq_false h2, show (a.t == c.t) = true from beq_iff_eq.2 (by omega)]
      by_cases h4 : a.o < c.o
      · rw [decide_eq_true h4]; rfl
      · rw [decide_eq_false h4]
        by_cases h5 : a.o > c.o
        · rw [decide_eq_true h5, show (a.o == c.o) = false from beq_eq_false_iff_ne.2 (by omega)]; rfl
        · rw [decide_eq_false h5, show (a.o == c.o) = true from beq_iff_eq.2 (by omega)]; rfl
theorem cmp_lt (a c : Ent) : decide (p31 a c < 0) = p33 a c := by
  rw [cmp3]
  cases p33 a c with
  | true => rfl
  | false => cases key a c <;> rfl
theorem cmp_ge (a c : Ent) : decide (p31 a c ≥ 0) = !p33 a c := by
  rw [cmp3]
  cases p33 a c with
  | true => rfl
  | false => cases key a c <;> rfl
theorem lt_iff (a c : Ent) : p33 a c = true ↔ a.t < c.t ∨ a.t = c.t ∧ a.o < c.o := by
  unfold p33; simp
theorem key_iff (a c : Ent) : key a c = true ↔ a.t = c.t ∧ a.o = c.o := by
  unfold key; simp
theorem key_lt {a c : Ent} (h : key a c = true) : p33 a c = false := by
  rw [key_iff] at h
  rw [← Bool.not_eq_true, lt_iff]; omega
theorem cmp_gt (a c : Ent) : decide (p31 a c > 0) = p33 c a := by
  rw [cmp3]
  cases h : p33 a c with
  | true =>
    have : p33 c a = false := by
      rw [lt_iff] at h
      rw [← Bool.not_eq_true, lt_iff]; omega
    rw [this]; rfl
  | false =>
    cases hk : key a c with
    | true =>
      have : p33 c a = false := key_lt (by rw [key_iff] at hk ⊢; omega)
      rw [this]; rfl
    | false =>
      have : p33 c a = true := by
        rw [← Bool.not_eq_true, lt_iff] at h
        rw [← Bool.not_eq_true, key_iff] at hk
        rw [lt_iff]; omega
      rw [this]; rfl
/-! ### Check -/
noncomputable def srtF (a : Ent) : List Ent → Bool
  | [] => true
  | b :: r => p33 a b && srtF b r
noncomputable def srt : List Ent → Bool
  | [] => true
  | a :: l => srtF a l
noncomputable def chk (l : List Ent) : Int := sel (decide (100 < l.length)) 2 (sel (l.any p30) 3 (sel (srt l) 0 7))
theorem ff_srt : ∀ (l : List Ent) (a : Ent) (q : Nat → Bool) (j : Nat), (∀ k, k < l.length → q (j + k) = !p33 (gE (a :: l) k) (gE l k)) → Nat.blt (ff q j l.length) (j + l.length) = !srtF a l
  | [], a, q, j, h => by simp [ff, blt_iff, srtF]
  | x :: l, a, q, j, h => by
    have h0 : q j = !p33 a x := h 0 (by simp)
    cases hp : p33 a x with
    | false =>
      have : ff q j (x :: l).length = j := by show ff q j (l.length + 1) = j; unfold ff; rw [h0, hp]; rfl
      rw [this]
      simp [hp, blt_iff, srtF]
    | true =>
      have : ff q j (x :: l).length = ff q (j + 1) l.length := by show ff q j (l.length + 1) = _; conv => lhs; unfold ff; rw [h0, hp]; simp only [Bool.not_true]
      rw [this]
      have ih := ff_srt l x q (j + 1) fun k hk => by
        have := h (k + 1) (by simp; omega)
        rw [show j + 1 + k = j + (k + 1) by omega, this]
        rfl
      rw [show j + (x :: l).length = j + 1 + l.length by simp; omega, ih]
      simp [srtF, hp]
theorem chk13 (x : List Ent) (hb : x.length ≤ 4611686018427387904) : p13 x = chk x ∧ g13 x = true := by
  have l0 := lp_ff2 (step := st13_0 ⟨x.length, fun k => rE (gE x k)⟩) (enc := fun j => ⟨(j : Int)⟩) (q := fun j => !p32 (gE x j)) (n := x.length) (t1 := 1) (t2 := 2)
    (fun j hj => by
      simp only [st13_0, su13_0_0, dec_lt hj, inB_nat hj, W_next hj hb, Int.toNat_natCast]
      rfl)
    (by simp only [st13_0, su13_0_0, dec_nlt (Nat.le_refl _)]) 0 (by omega) hb
  have a0 := (ff_list (p := fun e => !p32 e) (d := ⟨0, 0, 0, 0⟩) x (fun j => !p32 (gE x j)) 0 fun k hk => by rw [Nat.zero_add]).2
  rw [Nat.zero_add] at a0
  rw [Nat.sub_zero, a0] at l0
  have ea : (x.any fun e => !p32 e) = x.any p30 := by congr 1; exact funext fun e => (valid_bad e).symm
  rw [ea] at l0
  have l1 : ∃ s, lp (st13_1 ⟨x.length, fun k => rE (gE x k)⟩) ⟨1⟩ = (sel (!srt x) 1 2, s) := by
    cases x with
    | nil =>
      refine ⟨⟨1⟩, ?_⟩
      rw [lp_eq, show rounds = 18446744073709551614 + 1 from rfl, lp0_exit (t := 2)]
      · rfl
      · rfl
    | cons a l =>
      have hb' : l.length + 1 ≤ 4611686018427387904 := hb
      have h := lp_ff2 (step := st13_1 ⟨(a :: l).length, fun k => rE (gE (a :: l) k)⟩) (enc := fun j => ⟨((j + 1 : Nat) : Int)⟩) (q := fun j => !p33 (gE (a :: l) j) (gE l j)) (n := l.length) (t1 := 1) (t2 := 2)
        (fun j hj => by
          have e1 : j + 1 < (a :: l).length := by simp; omega
          simp only [st13_1, su13_1_0, dec_lt e1, inB_nat e1, W_next e1 hb, W_prev (j := j + 1) (by omega) (by omega), Nat.add_sub_cancel, inB_nat (show j < (a :: l).length by omega), Int.toNat_natCast]
          rfl)
        (by simp only [st13_1, su13_1_0, dec_nlt (show (a :: l).length ≤ l.length + 1 by simp)]) 0 (by omega) (by omega)
      have hs := ff_srt l a (fun j => !p33 (gE (a :: l) j) (gE l j)) 0 fun k hk => by rw [Nat.zero_add]
      rw [Nat.zero_add] at hs
      rw [Nat.sub_zero, hs] at h
      exact ⟨_, h⟩
  obtain ⟨s1, l1⟩ := l1
  have e0 : (⟨0⟩ : Sg13_0) = ⟨((0 : Nat) : Int)⟩ := rfl
  simp only [p13, g13, e0, l0, l1]
  unfold chk
  rw [show decide ((x.length : Int) > 100) = decide (100 < x.length) from by rw [Bool.eq_iff_iff]; simp; omega]
  cases decide (100 < x.length) with
  | true => exact ⟨rfl, rfl⟩
  | false => cases x.any p30 with
    | true => exact ⟨rfl, rfl⟩
    | false => cases srt x with
      | true => exact ⟨rfl, rfl⟩
      | false => exact ⟨rfl, rfl⟩
/-- where an entry belongs -/
noncomputable def ix (l : List Ent) (u : Ent) : Nat := (l.takeWhile fun a => p33 a u).length
theorem ix_le (l : List Ent) (u : Ent) : ix l u ≤ l.length := (List.takeWhile_prefix _).length_le
theorem find37 (x : List Ent) (y : Ent) (hb : x.length ≤ 4611686018427387904) : p37 x y = (ix x y : Int) ∧ g37 x y = true := by
  have l0 := lp_ff2 (step := st37_0 ⟨x.length, fun k => rE (gE x k), y.t, y.o, y.l, y.h⟩) (enc := fun j => ⟨(j : Int)⟩) (q := fun j => !p33 (gE x j) y) (n := x.length) (t1 := 1) (t2 := 2)
    (fun j hj => by
      simp only [st37_0, su37_0_0, dec_lt hj, inB_nat hj, W_next hj hb, Int.toNat_natCast]
      show sel true (sel true (sel true (sel (p33 (gE x j) y) _ _) _) _) _ = _
      cases p33 (gE x j) y <;> rfl)
    (by simp only [st37_0, su37_0_0, dec_nlt (Nat.le_refl _)]) 0 (by omega) hb
  have a0 := ff_list (p := fun e => !p33 e y) (d := ⟨0, 0, 0, 0⟩) x (fun j => !p33 (gE x j) y) 0 fun k hk => by rw [Nat.zero_add]
  rw [Nat.zero_add, Nat.zero_add] at a0
  rw [Nat.sub_zero, a0.2, a0.1] at l0
  have e0 : (⟨0⟩ : Sg37_0) = ⟨((0 : Nat) : Int)⟩ := rfl
  simp only [p37, g37, e0, l0, Bool.not_not]
  refine ⟨rfl, ?_⟩
  cases x.any fun e => !p33 e y <;> rfl
noncomputable def hasK (l : List Ent) (k : Nat) (u : Ent) : Bool := decide (k < l.length) && key (gE l k) u
theorem has38 (x : List Ent) (k : Nat) (u : Ent) : p38 x k u = hasK x k u ∧ g38 x k u = true := by
  unfold p38 g38 hasK key
  rw [Int.toNat_natCast]
  by_cases h : k < x.length
  · rw [dec_lt h, inB_nat h, decide_eq_true h]; exact ⟨rfl, rfl⟩
  · rw [dec_nlt (by omega), decide_eq_false h]; exact ⟨rfl, rfl⟩
theorem ent_eq (a c : Ent) : ((a.t == c.t) && ((a.o == c.o) && ((a.l == c.l) && ((a.h == c.h) && true)))) = decide (a = c) := by
  obtain ⟨a1, a2, a3, a4⟩ := a
  obtain ⟨c1, c2, c3, c4⟩ := c
  rw [Bool.eq_iff_iff]
  simp
/-! ### ContainsFunc, Check of the program -/
theorem any46 (x : List Ent) (hb : x.length ≤ 4611686018427387904) : (p46u ⟨x.length, fun k => rE (gE x k)⟩).alt = 1 ∧ decide ((p46u ⟨x.length, fun k => rE (gE x k)⟩).is0 ≥ 0) = x.any p30 := by
  have l0 := lp_ff2 (step := st46_0 ⟨x.length, fun k => rE (gE x k), (x.length : Int)⟩) (enc := fun j => ⟨(j : Int)⟩) (q := fun j => p30 (gE x j)) (n := x.length) (t1 := 1) (t2 := 2)
    (fun j hj => by
      simp only [st46_0, su46_0_0, dec_lt hj, inB_nat hj, W_next hj hb, Int.toNat_natCast]
      rfl)
    (by simp only [st46_0, su46_0_0, dec_nlt (Nat.le_refl _)]) 0 (by omega) hb
  have a0 := ff_list (p := p30) (d := ⟨0, 0, 0, 0⟩) x (fun j => p30 (gE x j)) 0 fun k hk => by rw [Nat.zero_add]
  rw [Nat.zero_add, Nat.zero_add] at a0
  rw [Nat.sub_zero, a0.2] at l0
  have e0 : (⟨0⟩ : Sg46_0) = ⟨((0 : Nat) : Int)⟩ := rfl
  simp only [p46u, e0, l0]
  cases x.any p30 with
  | true => exact ⟨rfl, decide_eq_true (Int.natCast_nonneg _)⟩
  | false => exact ⟨rfl, rfl⟩
theorem any29 (x : List Ent) (hb : x.length ≤ 4611686018427387904) : p29u ⟨x.length, fun k => rE (gE x k)⟩ = ⟨1, x.any p30⟩ := by
  obtain ⟨h1, h2⟩ := any46 x hb
  simp only [p29u, h1, h2]
  rfl
theorem chk12 (x : List Ent) (hb : x.length ≤ 4611686018427387904) : p12 x = chk x ∧ g12 x = true := by
  have l1 : ∃ s, lp (st12_0 ⟨x.length, fun k => rE (gE x k), W ((x.length : Int) - 1)⟩) ⟨0⟩ = (sel (!srt x) 1 2, s) := by
    cases x with
    | nil =>
      refine ⟨⟨0⟩, ?_⟩
      rw [lp_eq, show rounds = 18446744073709551614 + 1 from rfl, lp0_exit (t := 2)]
      · rfl
      · have : W (((([] : List Ent).length : Nat) : Int) - 1) = -1 := W_id (by simp) (by simp)
        simp only [st12_0, su12_0_0, this]
        rfl
    | cons a l =>
      have hb' : l.length + 1 ≤ 4611686018427387904 := hb
      have hn : W ((((a :: l).length : Nat) : Int) - 1) = (l.length : Int) := by rw [W_prev (by simp) (by simpa using hb)]; simp
      rw [hn]
      have h := lp_ff2 (step := st12_0 ⟨(a :: l).length, fun k => rE (gE (a :: l) k), (l.length : Int)⟩) (enc := fun j => ⟨(j : Int)⟩) (q := fun j => !p33 (gE (a :: l) j) (gE l j)) (n := l.length) (t1 := 1) (t2 := 2)
        (fun j hj => by
          simp only [st12_0, su12_0_0, dec_lt hj, W_next hj (by omega), inB_nat (show j < (a :: l).length by simp; omega), inB_nat (show j + 1 < (a :: l).length by simp; omega), Int.toNat_natCast]
          rw [← cmp_ge]
          rfl)
        (by simp only [st12_0, su12_0_0, dec_nlt (Nat.le_refl _)]) 0 (by omega) (by omega)
      have hs := ff_srt l a (fun j => !p33 (gE (a :: l) j) (gE l j)) 0 fun k hk => by rw [Nat.zero_add]
      rw [Nat.zero_add] at hs
      rw [Nat.sub_zero, hs] at h
      exact ⟨_, h⟩
  obtain ⟨s1, l1⟩ := l1
  simp only [p12, g12, any29 x hb, l1]
  unfold chk
  rw [show decide ((x.length : Int) > 100) = decide (100 < x.length) from by rw [Bool.eq_iff_iff]; simp; omega]
  cases decide (100 < x.length) with
  | true => exact ⟨rfl, rfl⟩
  | false => cases x.any p30 with
    | true => exact ⟨rfl, rfl⟩
    | false => cases srt x with
      | true => exact ⟨rfl, rfl⟩
      | false => exact ⟨rfl, rfl⟩
end Go.Ev.W.X

