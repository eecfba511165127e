/- Merging is a lattice's meet, as plain facts (own work). -/
import Derived.Test.YtblhkhjdkjjheaaEvXC
set_option linter.unusedVariables false
set_option linter.unusedSimpArgs false
set_option linter.unnecessarySimpa false
set_option linter.unusedSectionVars false
namespace Go.Ev.W.X
open Go Go.Ev Go.Ev.W Go.Proofs
set_option maxRecDepth 100000
theorem key_comm (x y : Ent) : key x y = key y x := by
  rw [Bool.eq_iff_iff, key_iff, key_iff]; omega
theorem key_key {x y z : Ent} (h : key y z = true) : key x y = key x z := by
  rw [key_iff] at h
  rw [Bool.eq_iff_iff, key_iff, key_iff]; omega
theorem cons_lt {x w : Ent} {a m : List Ent} (h : p33 x w = true) : mrg (x :: a) (w :: m) = x :: mrg a (w :: m) := by rw [mrg_cons, h]
theorem not_lt {x w : Ent} (h : p33 x w = true) : p33 w x = false := by
  rw [lt_iff] at h
  rw [← Bool.not_eq_true, lt_iff]; omega
theorem cons_gt {x w : Ent} {a m : List Ent} (h : p33 w x = true) : mrg (x :: a) (w :: m) = w :: mrg (x :: a) m := by rw [mrg_cons, not_lt h, h]
theorem cons_eq {x w : Ent} {a m : List Ent} (h : key x w = true) : mrg (x :: a) (w :: m) = comb x w :: mrg a m := by
  rw [mrg_cons, key_lt h, key_lt (by rw [key_comm]; exact h)]
theorem fold_srt : ∀ (b a : List Ent), srt a = true → srt (b.foldl upd a) = true
  | [], a, h => h
  | y :: b, a, h => fold_srt b (upd a y) (upd_srt h)
theorem mrg_srt {a b : List Ent} (ha : srt a = true) (hb : srt b = true) : srt (mrg a b) = true := by
  rw [← fold_mrg b a hb]
  exact fold_srt b a ha
/-- who is in a merged ledger -/
theorem mem_mrg : ∀ {a b : List Ent} {e : Ent}, e ∈ mrg a b → e ∈ a ∨ e ∈ b ∨ ∃ x y, x ∈ a ∧ y ∈ b ∧ key x y = true ∧ e = comb x y
  | [], b, e, h => by rw [mrg_nil_l] at h; exact .inr (.inl h)
  | x :: a, [], e, h => by rw [mrg_nil_r] at h; exact .inl h
  | x :: a, y :: b, e, h => by
    rcases tri x y with ⟨h1, h2, h3⟩ | ⟨h1, h2, h3⟩ | ⟨h1, h2, h3⟩
    · rw [cons_lt h1] at h
      rcases List.mem_cons.1 h with rfl | h
      · exact .inl (.head _)
      · rcases mem_mrg h with h | h | ⟨x', y', k1, k2, k3⟩
        · exact .inl (.tail _ h)
        · exact .inr (.inl h)
        · exact .inr (.inr ⟨x', y', .tail _ k1, k2, k3⟩)
    · rw [cons_gt h2] at h
      rcases List.mem_cons.1 h with rfl | h
      · exact .inr (.inl (.head _))
      · rcases mem_mrg h with h | h | ⟨x', y', k1, k2, k3⟩
        · exact .inl h
        · exact .inr (.inl (.tail _ h))
        · exact .inr (.inr ⟨x', y', k1, .tail _ k2, k3⟩)
    · rw [cons_eq h3] at h
      rcases List.mem_cons.1 h with rfl | h
      · exact .inr (.inr ⟨x, y, .head _, .head _, h3, rfl⟩)
      · rcases mem_mrg h with h | h | ⟨x', y', k1, k2, k3⟩
        · exact .inl (.tail _ h)
        · exact .inr (.inl (.tail _ h))
        · exact .inr (.inr ⟨x', y', .tail _ k1, .tail _ k2, k3⟩)
termination_by a b => a.length + b.length
/-- what holds of entries, and of two that are joined, holds of the merged -/
theorem all_mrg {Q : Ent → Prop} {a b : List Ent} (ha : ∀ e ∈ a, Q e) (hb : ∀ e ∈ b, Q e) (hc : ∀ x y, Q x → Q y → key x y = true → Q (comb x y)) : ∀ e ∈ mrg a b, Q e := fun e he => by
  rcases mem_mrg he with h | h | ⟨x, y, h1, h2, h3, rfl⟩
  · exact ha e h
  · exact hb e h
  · exact hc x y (ha x h1) (hb y h2) h3
noncomputable def bare (l : List Ent) : Bool := l.any fun u => decide (u.l > u.h)
/-! ### ledgers with numbers in range -/
structure Led (n : Nat) (l : List Ent) : Prop where
  srt : X.srt l = true
  len : l.length ≤ n
  num : ∀ e ∈ l, (0 ≤ e.t ∧ e.t ≤ 2) ∧ (0 ≤ e.o ∧ e.o ≤ 3) ∧ 0 ≤ e.l ∧ e.h ≤ 30
theorem Made.led {l : List Ent} (h : Made l) : Led 8 l := ⟨h.srt, h.len, fun e he => by obtain ⟨h1, h2, h3, h4, h5⟩ := h.num e he; exact ⟨h1, h2, h3, h5⟩⟩
theorem Led.mrg {a b : List Ent} {n m : Nat} (ha : Led n a) (hb : Led m b) : Led (n + m) (mrg a b) := by
  refine ⟨mrg_srt ha.srt hb.srt, by have := mrg_len a b; have := ha.len; have := hb.len; omega, all_mrg ha.num hb.num fun x y hx hy hk => ?_⟩
  rw [key_iff] at hk
  unfold comb
  simp only
  refine ⟨hx.1, hx.2.1, ?_, ?_⟩
  · split <;> omega
  · split <;> omega
theorem Led.chk0 {l : List Ent} {n : Nat} (h : Led n l) (hn : n ≤ 100) (hb : bare l = false) : chk l = 0 := by
  refine chk_zero h.srt (by have := h.len; omega) fun e he => num_ok ?_
  obtain ⟨h1, h2, h3, h4⟩ := h.num e he
  refine ⟨h1, h2, h3, ?_, h4⟩
  rw [← Bool.not_eq_true] at hb
  by_cases hh : e.l ≤ e.h
  · exact hh
  · exact absurd (List.any_eq_true.2 ⟨e, he, decide_eq_true (by omega)⟩) hb
theorem merge_ok {a b : List Ent} {n m : Nat} (ha : Led n a) (hb : Led m b) (h1 : chk a = 0) (h2 : chk b = 0) (hn : n + m ≤ 100) :
    merge a b = sel (bare (mrg a b)) ([], 21) (mrg a b, 0) := by
  have hl := (ha.mrg hb).len
  unfold merge
  exact sel_r (by rw [h1]; rfl) (sel_r (by rw [h2]; rfl) (sel_r (decide_eq_false (by omega)) rfl))
theorem Made.bare {l : List Ent} (h : Made l) : bare l = false := by
  rw [← Bool.not_eq_true]
  intro hb
  obtain ⟨e, he, h1⟩ := List.any_eq_true.1 hb
  have := of_decide_eq_true h1
  have := (h.num e he).2.2.2.1
  omega
end Go.Ev.W.X

