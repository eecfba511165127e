/- Merging is a lattice's meet, as plain facts (own work). -/
import Derived.Test.YtblhkhjdkjjheaaEvXC
set_option linter.unusedVariables false
set_option linter.unusedSimpArgs false
set_option linter.unnecessarySimpa false
set_option linter.unusedSectionVars false
namespace Go.Ev.W.X
open Go Go.Ev Go.Ev.W Go.Proofs
set_option maxRecDepth 100000
theorem comb_comm {x y : Ent} (h : key x y = true) : comb x y = comb y x := by
  rw [key_iff] at h
  obtain ⟨x1, x2, x3, x4⟩ := x
  obtain ⟨y1, y2, y3, y4⟩ := y
  simp only at h
  obtain ⟨rfl, rfl⟩ := h
  unfold comb
  simp only [Ent.mk.injEq, true_and]
  constructor
  · split <;> split <;> omega
  · split <;> split <;> omega
theorem comb_assoc (x y z : Ent) : comb (comb x y) z = comb x (comb y z) := by
  obtain ⟨x1, x2, x3, x4⟩ := x
  obtain ⟨y1, y2, y3, y4⟩ := y
  obtain ⟨z1, z2, z3, z4⟩ := z
  unfold comb
  simp only [Ent.mk.injEq, true_and]
  constructor
  · repeat' split
    all_goals omega
  · repeat' split
    all_goals omega
theorem comb_self (x : Ent) : comb x x = x := by
  obtain ⟨x1, x2, x3, x4⟩ := x
  unfold comb
  simp
theorem key_comm (x y : Ent) : key x y = key y x := by
  rw [Bool.eq_iff_iff, key_iff, key_iff]; omega
theorem mrg_comm : ∀ (a b : List Ent), mrg a b = mrg b a
  | [], b => by rw [mrg_nil_l, mrg_nil_r]
  | x :: a, [] => by rw [mrg_nil_l, mrg_nil_r]
  | x :: a, y :: b => by
    rw [mrg_cons, mrg_cons]
    rcases tri x y with ⟨h1, h2, h3⟩ | ⟨h1, h2, h3⟩ | ⟨h1, h2, h3⟩
    · rw [h1, h2]
      show x :: mrg a (y :: b) = x :: mrg (y :: b) a
      rw [mrg_comm a (y :: b)]
    · rw [h1, h2]
      show y :: mrg (x :: a) b = y :: mrg b (x :: a)
      rw [mrg_comm (x :: a) b]
    · rw [h1, h2]
      show comb x y :: mrg a b = comb y x :: mrg b a
      rw [mrg_comm a b, comb_comm h3]
termination_by a b => a.length + b.length
theorem mrg_self : ∀ a, mrg a a = a
  | [] => mrg_nil_l []
  | x :: a => by
    rw [mrg_cons]
    rcases tri x x with ⟨h1, h2, h3⟩ | ⟨h1, h2, h3⟩ | ⟨h1, h2, h3⟩
    · rw [h1] at h2; cases h2
    · rw [h1] at h2; cases h2
    · rw [h1]
      show comb x x :: mrg a a = x :: a
      rw [mrg_self a, comb_self]
theorem lt_key {x y z : Ent} (h : key y z = true) : p33 x y = p33 x z := by
  rw [key_iff] at h
  rw [Bool.eq_iff_iff, lt_iff, lt_iff]; omega
theorem key_key {x y z : Ent} (h : key y z = true) : key x y = key x z := by
  rw [key_iff] at h
  rw [Bool.eq_iff_iff, key_iff, key_iff]; omega
theorem cons_lt {x w : Ent} {a m : List Ent} (h : p33 x w = true) : mrg (x :: a) (w :: m) = x :: mrg a (w :: m) := by rw [mrg_cons, h]
theorem not_lt {x w : Ent} (h : p33 x w = true) : p33 w x = false := by
  rw [lt_iff] at h
  rw [← Bool.not_eq_true, lt_iff]; omega
theorem cons_gt {x w : Ent} {a m : List Ent} (h : p33 w x = true) : mrg (x :: a) (w :: m) = w :: mrg (x :: a) m := by rw [mrg_cons, not_lt h, h]
theorem cons_eq {x w : Ent} {a m : List Ent} (h : key x w = true) : mrg (x :: a) (w :: m) = comb x w :: mrg a m := by
  rw [mrg_cons, key_lt h, key_lt (by rw [key_comm]; exact h)]
theorem upd_lt {x u : Ent} {l : List Ent} (h : p33 x u = true) : upd (x :: l) u = x :: upd l u := by rw [upd_cons, h]
theorem key_of {x u : Ent} (h : key x u = true) : p33 x u = false := key_lt h
theorem upd_eq {x u : Ent} {l : List Ent} (h : key x u = true) : upd (x :: l) u = comb x u :: l := by rw [upd_cons, key_of h, h]
theorem upd_gt {x u : Ent} {l : List Ent} (h : p33 u x = true) : upd (x :: l) u = u :: x :: l := by
  have hk : key x u = false := by
    cases hk : key x u with
    | false => rfl
    | true =>
      have := key_lt (show key u x = true by rw [key_comm]; exact hk)
      rw [h] at this; cases this
  rw [upd_cons, not_lt h, hk]
theorem mrg_upd2 : ∀ (a b : List Ent) (y : Ent), mrg a (upd b y) = upd (mrg a b) y
  | [], b, y => by rw [mrg_nil_l, mrg_nil_l]
  | x :: a, [], y => by rw [upd_nil, mrg_nil_r, ← mrg_upd (x :: a) y [] rfl, mrg_nil_r]
  | x :: a, z :: b, y => by
    rcases tri x z with ⟨h1, h2, h3⟩ | ⟨h1, h2, h3⟩ | ⟨h1, h2, h3⟩
    · rw [cons_lt h1]
      rcases tri x y with ⟨k1, k2, k3⟩ | ⟨k1, k2, k3⟩ | ⟨k1, k2, k3⟩
      · rw [upd_lt k1, ← mrg_upd2 a (z :: b) y]
        rcases tri z y with ⟨j1, j2, j3⟩ | ⟨j1, j2, j3⟩ | ⟨j1, j2, j3⟩
        · rw [upd_lt j1, cons_lt h1]
        · rw [upd_gt j2, cons_lt k1]
        · rw [upd_eq j3, cons_lt (show p33 x (comb z y) = true from h1)]
      · have hz : p33 y z = true := lt_trans k2 h1
        rw [upd_gt k2, upd_gt hz, cons_gt k2, cons_lt h1]
      · have hz : p33 y z = true := by rw [← key_lt2 k3]; exact h1
        rw [upd_eq k3, upd_gt hz, cons_eq k3]
    · rw [cons_gt h2]
      rcases tri z y with ⟨j1, j2, j3⟩ | ⟨j1, j2, j3⟩ | ⟨j1, j2, j3⟩
      · rw [upd_lt j1, upd_lt j1, cons_gt h2, mrg_upd2 (x :: a) b y]
      · rw [upd_gt j2, upd_gt j2, cons_gt (lt_trans j2 h2), cons_gt h2]
      · rw [upd_eq j3, upd_eq j3, cons_gt (show p33 (comb z y) x = true from h2)]
    · rw [cons_eq h3]
      rcases tri x y with ⟨k1, k2, k3⟩ | ⟨k1, k2, k3⟩ | ⟨k1, k2, k3⟩
      · have j1 : p33 z y = true := by rw [← key_lt2 h3]; exact k1
        rw [upd_lt (show p33 (comb x z) y = true from k1), upd_lt j1, cons_eq h3, mrg_upd2 a b y]
      · have j2 : p33 y z = true := by rw [← lt_key h3]; exact k2
        rw [upd_gt (show p33 y (comb x z) = true from k2), upd_gt j2, cons_gt k2, cons_eq h3]
      · have j3 : key z y = true := by rw [key_comm, key_key (show key z x = true by rw [key_comm]; exact h3), key_comm]; exact k3
        rw [upd_eq (show key (comb x z) y = true from k3), upd_eq j3, cons_eq (show key x (comb z y) = true from h3), comb_assoc]
termination_by a b => a.length + b.length
theorem fold_fold (a : List Ent) : ∀ (c b : List Ent), mrg a (c.foldl upd b) = c.foldl upd (mrg a b)
  | [], b => rfl
  | y :: c, b => by
    show mrg a (c.foldl upd (upd b y)) = c.foldl upd (upd (mrg a b) y)
    rw [fold_fold a c (upd b y), mrg_upd2]
theorem mrg_assoc (a b c : List Ent) (hc : srt c = true) : mrg (mrg a b) c = mrg a (mrg b c) := by
  rw [← fold_mrg c (mrg a b) hc, ← fold_mrg c b hc, fold_fold]
theorem fold_srt : ∀ (b a : List Ent), srt a = true → srt (b.foldl upd a) = true
  | [], a, h => h
  | y :: b, a, h => fold_srt b (upd a y) (upd_srt h)
theorem mrg_srt {a b : List Ent} (ha : srt a = true) (hb : srt b = true) : srt (mrg a b) = true := by
  rw [← fold_mrg b a hb]
  exact fold_srt b a ha
/-- who is in a merged ledger -/
theorem mem_mrg : ∀ {a b : List Ent} {e : Ent}, e ∈ mrg a b → e ∈ a ∨ e ∈ b ∨ ∃ x y, x ∈ a ∧ y ∈ b ∧ key x y = true ∧ e = comb x y
  | [], b, e, h => by rw [mrg_nil_l] at h; exact .inr (.inl h)
  | x :: a, [], e, h => by rw [mrg_nil_r] at h; exact .inl h
  | x :: a, y :: b, e, h => by
    rcases tri x y with ⟨h1, h2, h3⟩ | ⟨h1, h2, h3⟩ | ⟨h1, h2, h3⟩
    · rw [cons_lt h1] at h
      rcases List.mem_cons.1 h with rfl | h
      · exact .inl (.head _)
      · rcases mem_mrg h with h | h | ⟨x', y', k1, k2, k3⟩
        · exact .inl (.tail _ h)
        · exact .inr (.inl h)
        · exact .inr (.inr ⟨x', y', .tail _ k1, k2, k3⟩)
    · rw [cons_gt h2] at h
      rcases List.mem_cons.1 h with rfl | h
      · exact .inr (.inl (.head _))
      · rcases mem_mrg h with h | h | ⟨x', y', k1, k2, k3⟩
        · exact .inl h
        · exact .inr (.inl (.tail _ h))
        · exact .inr (.inr ⟨x', y', k1, .tail _ k2, k3⟩)
    · rw [cons_eq h3] at h
      rcases List.mem_cons.1 h with rfl | h
      · exact .inr (.inr ⟨x, y, .head _, .head _, h3, rfl⟩)
      · rcases mem_mrg h with h | h | ⟨x', y', k1, k2, k3⟩
        · exact .inl (.tail _ h)
        · exact .inr (.inl (.tail _ h))
        · exact .inr (.inr ⟨x', y', .tail _ k1, .tail _ k2, k3⟩)
termination_by a b => a.length + b.length
/-- what holds of entries, and of two that are joined, holds of the merged -/
theorem all_mrg {Q : Ent → Prop} {a b : List Ent} (ha : ∀ e ∈ a, Q e) (hb : ∀ e ∈ b, Q e) (hc : ∀ x y, Q x → Q y → key x y = true → Q (comb x y)) : ∀ e ∈ mrg a b, Q e := fun e he => by
  rcases mem_mrg he with h | h | ⟨x, y, h1, h2, h3, rfl⟩
  · exact ha e h
  · exact hb e h
  · exact hc x y (ha x h1) (hb y h2) h3
noncomputable def bare (l : List Ent) : Bool := l.any fun u => decide (u.l > u.h)
theorem bare_upd : ∀ (l : List Ent) (u : Ent), bare l = true → bare (upd l u) = true
  | [], u, h => by cases h
  | x :: l, u, h => by
    have h : (decide (x.l > x.h) || bare l) = true := h
    rcases tri x u with ⟨h1, h2, h3⟩ | ⟨h1, h2, h3⟩ | ⟨h1, h2, h3⟩
    · rw [upd_lt h1]
      show (decide (x.l > x.h) || bare (upd l u)) = true
      rw [Bool.or_eq_true] at h ⊢
      exact h.imp id (bare_upd l u)
    · rw [upd_gt h2]
      show (decide (u.l > u.h) || (decide (x.l > x.h) || bare l)) = true
      rw [h, Bool.or_true]
    · rw [upd_eq h3]
      show (decide ((comb x u).l > (comb x u).h) || bare l) = true
      rw [Bool.or_eq_true] at h ⊢
      refine h.imp (fun h => ?_) id
      have h := of_decide_eq_true h
      refine decide_eq_true ?_
      unfold comb
      simp only
      split <;> split <;> omega
theorem bare_fold : ∀ (b a : List Ent), bare a = true → bare (b.foldl upd a) = true
  | [], a, h => h
  | y :: b, a, h => bare_fold b (upd a y) (bare_upd a y h)
theorem bare_mrg {a b : List Ent} (hb : srt b = true) (h : bare a = true) : bare (mrg a b) = true := by
  rw [← fold_mrg b a hb]
  exact bare_fold b a h
/-! ### ledgers with numbers in range -/
structure Led (n : Nat) (l : List Ent) : Prop where
  srt : X.srt l = true
  len : l.length ≤ n
  num : ∀ e ∈ l, (0 ≤ e.t ∧ e.t ≤ 2) ∧ (0 ≤ e.o ∧ e.o ≤ 3) ∧ 0 ≤ e.l ∧ e.h ≤ 30
theorem Made.led {l : List Ent} (h : Made l) : Led 8 l := ⟨h.srt, h.len, fun e he => by obtain ⟨h1, h2, h3, h4, h5⟩ := h.num e he; exact ⟨h1, h2, h3, h5⟩⟩
theorem Led.mrg {a b : List Ent} {n m : Nat} (ha : Led n a) (hb : Led m b) : Led (n + m) (mrg a b) := by
  refine ⟨mrg_srt ha.srt hb.srt, by have := mrg_len a b; have := ha.len; have := hb.len; omega, all_mrg ha.num hb.num fun x y hx hy hk => ?_⟩
  rw [key_iff] at hk
  unfold comb
  simp only
  refine ⟨hx.1, hx.2.1, ?_, ?_⟩
  · split <;> omega
  · split <;> omega
theorem Led.chk0 {l : List Ent} {n : Nat} (h : Led n l) (hn : n ≤ 100) (hb : bare l = false) : chk l = 0 := by
  refine chk_zero h.srt (by have := h.len; omega) fun e he => num_ok ?_
  obtain ⟨h1, h2, h3, h4⟩ := h.num e he
  refine ⟨h1, h2, h3, ?_, h4⟩
  rw [← Bool.not_eq_true] at hb
  by_cases hh : e.l ≤ e.h
  · exact hh
  · exact absurd (List.any_eq_true.2 ⟨e, he, decide_eq_true (by omega)⟩) hb
theorem merge_ok {a b : List Ent} {n m : Nat} (ha : Led n a) (hb : Led m b) (h1 : chk a = 0) (h2 : chk b = 0) (hn : n + m ≤ 100) :
    merge a b = sel (bare (mrg a b)) ([], 21) (mrg a b, 0) := by
  have hl := (ha.mrg hb).len
  unfold merge
  exact sel_r (by rw [h1]; rfl) (sel_r (by rw [h2]; rfl) (sel_r (decide_eq_false (by omega)) rfl))
theorem Made.bare {l : List Ent} (h : Made l) : bare l = false := by
  rw [← Bool.not_eq_true]
  intro hb
  obtain ⟨e, he, h1⟩ := List.any_eq_true.1 hb
  have := of_decide_eq_true h1
  have := (h.num e he).2.2.2.1
  omega
end Go.Ev.W.X
