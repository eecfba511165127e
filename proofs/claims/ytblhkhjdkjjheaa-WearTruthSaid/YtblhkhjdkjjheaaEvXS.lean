/- WearAdds, as a plain fact (own work). -/
import Derived.Test.YtblhkhjdkjjheaaEvXL
set_option linter.unusedVariables false
set_option linter.unusedSimpArgs false
set_option linter.unnecessarySimpa false
set_option linter.unusedSectionVars false
namespace Go.Ev.W.X
open Go Go.Ev Go.Ev.W Go.Proofs
set_option maxRecDepth 100000
/-! ### sums -/
noncomputable def tsum (t : Int) (f : Ent → Int) : List Ent → Int
  | [] => 0
  | e :: l => sel (e.t == t) (f e) 0 + tsum t f l
theorem fold_tsum (t : Int) (f : Ent → Int) : ∀ (l : List Ent) (a : Int), (∀ e ∈ l, 0 ≤ f e ∧ f e ≤ 30) → 0 ≤ a → a + 30 * l.length ≤ 1000000 → l.foldl (addIf t f) a = a + tsum t f l
  | [], a, h, h0, h1 => by show a = a + 0; omega
  | e :: l, a, h, h0, h1 => by
    have h2 := h e (.head _)
    have h1 : a + 30 * ((l.length + 1 : Nat) : Int) ≤ 1000000 := h1
    show l.foldl (addIf t f) (addIf t f a e) = a + (sel (e.t == t) (f e) 0 + tsum t f l)
    unfold addIf
    cases e.t == t with
    | true =>
      show l.foldl (addIf t f) (W (a + f e)) = a + (f e + tsum t f l)
      rw [W_id (by omega) (by omega), fold_tsum t f l (a + f e) (fun x hx => h x (.tail _ hx)) (by omega) (by omega)]
      omega
    | false =>
      show l.foldl (addIf t f) a = a + (0 + tsum t f l)
      rw [fold_tsum t f l a (fun x hx => h x (.tail _ hx)) (by omega) (by omega)]
      omega
theorem lt_irrefl (x : Ent) : p33 x x = false := by rw [← Bool.not_eq_true, lt_iff]; omega
/-! ### sorted lists with the same entries -/
theorem srt_ext : ∀ (l m : List Ent), srt l = true → srt m = true → (∀ e, e ∈ l ↔ e ∈ m) → l = m
  | [], [], _, _, _ => rfl
  | [], b :: m, _, _, h => by have := (h b).2 (.head _); simp at this
  | a :: l, [], _, _, h => by have := (h a).1 (.head _); simp at this
  | a :: l, b :: m, hl, hm, h => by
    have e : a = b := by
      rcases List.mem_cons.1 ((h a).1 (.head _)) with e | h1
      · exact e
      · rcases List.mem_cons.1 ((h b).2 (.head _)) with e | h2
        · exact e.symm
        · have h3 := srtF_all hm _ h1
          have h4 := srtF_all hl _ h2
          rw [not_lt h3] at h4; cases h4
    subst e
    rw [srt_ext l m (srt_tail hl) (srt_tail hm) fun e => ⟨fun he => ?_, fun he => ?_⟩]
    · rcases List.mem_cons.1 ((h e).1 (.tail _ he)) with rfl | h1
      · have := srtF_all hl _ he
        rw [lt_irrefl] at this; cases this
      · exact h1
    · rcases List.mem_cons.1 ((h e).2 (.tail _ he)) with rfl | h1
      · have := srtF_all hm _ he
        rw [lt_irrefl] at this; cases this
      · exact h1
theorem srt_lt : ∀ {l : List Ent}, srt l = true → ∀ {i j : Nat}, i < j → j < l.length → p33 (gE l i) (gE l j) = true
  | [], h, i, j, hij, hj => by simp at hj
  | a :: l, h, i, 0, hij, hj => by omega
  | a :: l, h, 0, j + 1, hij, hj => by
    have hj' : j < l.length := by simpa using hj
    have hm : gE (a :: l) (j + 1) ∈ l := by
      have : gE (a :: l) (j + 1) = gE l j := rfl
      rw [this, gE_at hj']
      exact List.getElem_mem hj'
    exact srtF_all h _ hm
  | a :: l, h, i + 1, j + 1, hij, hj => srt_lt (l := l) (srt_tail h) (i := i) (j := j) (by omega) (by simpa using hj)
theorem gE_mem {l : List Ent} {k : Nat} (h : k < l.length) : gE l k ∈ l := by rw [gE_at h]; exact List.getElem_mem h
theorem mem_gE {l : List Ent} {e : Ent} (h : e ∈ l) : ∃ k, k < l.length ∧ gE l k = e := by
  obtain ⟨k, hk, he⟩ := List.getElem_of_mem h
  exact ⟨k, hk, by rw [gE_at hk]; exact he⟩
theorem key_ne {x y : Ent} (h : p33 x y = true) : key x y = false := by
  cases hk : key x y with
  | false => rfl
  | true => rw [key_lt hk] at h; cases h
/-- entries of a sorted ledger with one key are one -/
theorem srt_key {l : List Ent} (h : srt l = true) {i j : Nat} (hi : i < l.length) (hj : j < l.length) (hk : key (gE l i) (gE l j) = true) : i = j := by
  rcases Nat.lt_trichotomy i j with h1 | h1 | h1
  · rw [key_ne (srt_lt h h1 hj)] at hk; cases hk
  · exact h1
  · rw [key_comm, key_ne (srt_lt h h1 hi)] at hk; cases hk
theorem hasK_mem {l : List Ent} {k : Nat} {u : Ent} (h : hasK l k u = true) : ∃ e, e ∈ l ∧ key e u = true := by
  have h1 := hasK_lt h
  unfold hasK at h
  rw [Bool.and_eq_true] at h
  exact ⟨_, gE_mem h1, h.2⟩
theorem mem_ins2 {l : List Ent} {u e : Ent} : e ∈ ins l u ↔ e ∈ l ∨ e = u := by
  refine ⟨mem_ins, fun h => ?_⟩
  unfold ins
  rw [List.mem_append, List.mem_cons]
  rcases h with h | h
  · rw [← List.take_append_drop (ix l u) l, List.mem_append] at h
    exact h.imp id .inr
  · exact .inr (.inl h)
/-! ### the loop -/
def rot (n t k : Nat) : Nat := (k + t) % n
theorem rot_inj {n t j k : Nat} (hj : j < n) (hk : k < n) (h : rot n t j = rot n t k) : j = k := by
  unfold rot at h
  have hn : 0 < n := by omega
  have h1 : (j + t % n) % n = (k + t % n) % n := by rw [Nat.add_mod_mod, Nat.add_mod_mod]; exact h
  have ht : t % n < n := Nat.mod_lt _ hn
  have f : ∀ a : Nat, a < n → (a + t % n) % n = if a + t % n < n then a + t % n else a + t % n - n := fun a ha => by
    split
    · exact Nat.mod_eq_of_lt (by assumption)
    · rw [Nat.mod_eq_sub_mod (by omega), Nat.mod_eq_of_lt (by omega)]
  rw [f j hj, f k hk] at h1
  split at h1 <;> split at h1 <;> omega
theorem rot_sur {n t i : Nat} (hi : i < n) : ∃ j, j < n ∧ rot n t j = i := by
  have hn : 0 < n := by omega
  have ht : t % n < n := Nat.mod_lt _ hn
  refine ⟨if t % n ≤ i then i - t % n else i + n - t % n, by split <;> omega, ?_⟩
  unfold rot
  rw [← Nat.add_mod_mod]
  split
  · rw [show i - t % n + t % n = i by omega, Nat.mod_eq_of_lt hi]
  · rw [show i + n - t % n + t % n = i + n by omega, Nat.add_mod_right, Nat.mod_eq_of_lt hi]
structure Own (l : List Ent) (t k : Nat) (own : List Ent) : Prop where
  srt : X.srt own = true
  len : own.length = k
  mem : ∀ e, e ∈ own ↔ ∃ j, j < k ∧ e = gE l (rot l.length t j)
theorem Own.next {l : List Ent} {t k : Nat} {own : List Ent} (hl : Made l) (h : Own l t k own) (hk : k < l.length) :
    add own (gE l (rot l.length t k)) = (ins own (gE l (rot l.length t k)), 0) ∧ Own l t (k + 1) (ins own (gE l (rot l.length t k))) := by
  have hr : ∀ j, j < l.length → rot l.length t j < l.length := fun j hj => Nat.mod_lt _ (by omega)
  have hu := gE_mem (hr k hk)
  have hsub : ∀ e ∈ own, e ∈ l := fun e he => by
    obtain ⟨j, hj, rfl⟩ := (h.mem e).1 he
    exact gE_mem (hr j (by omega))
  have hlen := hl.len
  have c1 : chk own = 0 := chk_zero h.srt (by rw [h.len]; omega) fun e he => num_ok (hl.num e (hsub e he))
  have c2 : p30 (gE l (rot l.length t k)) = false := num_ok (hl.num _ hu)
  have c3 : hasK own (ix own (gE l (rot l.length t k))) (gE l (rot l.length t k)) = false := by
    rw [← Bool.not_eq_true]
    intro hh
    obtain ⟨e, he, hke⟩ := hasK_mem hh
    obtain ⟨j, hj, rfl⟩ := (h.mem e).1 he
    have := rot_inj (by omega) hk (srt_key hl.srt (hr j (by omega)) (hr k hk) hke)
    omega
  refine ⟨?_, ?_⟩
  · unfold add
    exact sel_r (by rw [c1]; rfl) (sel_r c2 (sel_r c3 (sel_r (decide_eq_false (by rw [h.len]; omega)) rfl)))
  · refine ⟨?_, ?_, fun e => ?_⟩
    · rw [← ins_upd c3]; exact upd_srt h.srt
    · have := ix_le own (gE l (rot l.length t k))
      unfold ins
      simp [h.len]
      have := h.len
      omega
    · rw [mem_ins2]
      constructor
      · rintro (he | rfl)
        · obtain ⟨j, hj, rfl⟩ := (h.mem e).1 he
          exact ⟨j, by omega, rfl⟩
        · exact ⟨k, by omega, rfl⟩
      · rintro ⟨j, hj, rfl⟩
        by_cases hjk : j = k
        · subst hjk; exact .inr rfl
        · exact .inl ((h.mem _).2 ⟨j, by omega, rfl⟩)
theorem Own.all {l : List Ent} {t : Nat} {own : List Ent} (hl : Made l) (h : Own l t l.length own) : own = l := by
  refine srt_ext own l h.srt hl.srt fun e => ?_
  rw [h.mem]
  constructor
  · rintro ⟨j, hj, rfl⟩
    exact gE_mem (Nat.mod_lt _ (by omega))
  · intro he
    obtain ⟨k, hk, rfl⟩ := mem_gE he
    obtain ⟨j, hj, hr⟩ := rot_sur (t := t) hk
    exact ⟨j, hj, by rw [hr]⟩
end Go.Ev.W.X

