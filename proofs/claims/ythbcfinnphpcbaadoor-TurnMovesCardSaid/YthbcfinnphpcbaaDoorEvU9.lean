/- The law of moves: the program's answers are the reference's (own work). -/
import Derived.Test.YthbcfinnphpcbaaDoorEvU8
set_option linter.unusedVariables false
set_option linter.unusedSimpArgs false
set_option linter.unnecessarySimpa false
set_option linter.unusedSectionVars false
namespace Go.Ev.T
open Go Go.Ev Go.Proofs
set_option maxRecDepth 100000
theorem lp_inv {σ : Type} {step : σ → Stp σ} {I : Nat → σ → Prop} {Q : Nat → σ → Prop} (h : ∀ m s, I m s → (∃ t, step s = .exit t ∧ Q t s) ∨ ∃ s' m', m = m' + 1 ∧ step s = .next s' ∧ I m' s') :
    ∀ (m n : Nat) (s : σ), m ≤ n → I m s → Q (lp0 step n s).1 (lp0 step n s).2
  | m, n, s, hn, hi => by
    rcases h m s hi with ⟨t, h1, h2⟩ | ⟨s', m', rfl, h1, h2⟩
    · rw [lp0_exit h1]
      exact h2
    · cases n with
      | zero => omega
      | succ n =>
        rw [lp0_next h1]
        exact lp_inv h m' n s' (by omega) h2
theorem lp_inv2 {σ : Type} {step : σ → Stp σ} {I : Nat → σ → Prop} {Q : Nat → σ → Prop} (h : ∀ m s, I m s → (∃ t, step s = .exit t ∧ Q t s) ∨ ∃ s' m', m = m' + 1 ∧ step s = .next s' ∧ I m' s')
    (m : Nat) (s : σ) (hm : m ≤ 1000000000000) (hi : I m s) : Q (lp step s).1 (lp step s).2 := by
  rw [lp_eq]
  exact lp_inv h m rounds s (by unfold rounds; omega) hi

/-! ### draws and made planes -/
theorem g69_ok (x y z : V3) : g69 x y z = true := by
  have h : ∀ a c : V3, word3 (p51 a c) := fun a c => ⟨⟨W_lo _, W_hi _⟩, ⟨W_lo _, W_hi _⟩, W_lo _, W_hi _⟩
  simp only [g69, (prim_eq (h _ _)).2, g75_ok (h _ _), Bool.or_true]
theorem g25_ok (x : IL) : g25 x = true := by
  obtain ⟨k, c1, h1, h2, h3⟩ := draw_ok (m := 8) (by omega) (by omega) x (c := 0) (by omega)
  obtain ⟨v, c2, h4, h5, h6⟩ := draw_ok (m := 17) (by omega) (by omega) x (c := c1) (by omega)
  obtain ⟨a1, a2, a3, c3, h7, h8, h9⟩ := vec_ok (m := 8) (by omega) (by omega) x (c := c2) (by omega)
  obtain ⟨b1, b2, b3, c4, h10, h11, h12⟩ := vec_ok (m := 8) (by omega) (by omega) x (c := c3) (by omega)
  obtain ⟨d1, d2, d3, c5, h13, h14, h15⟩ := vec_ok (m := 8) (by omega) (by omega) x (c := c4) (by omega)
  simp only [g25, h1, h4, h7, h10, h13, g69_ok, g17_ok _ (show (0 : Int) < 3 by omega), Bool.or_true]
  cases decide (k > 1) <;> rfl
theorem g26_ok (x : Pln) (y : V3) : g26 x y = true := by
  have hr := mod_range (a := y.z) (b := 9) (by omega) (by omega)
  have h9 : p17 y.z 9 = 0 ∨ p17 y.z 9 = 1 ∨ p17 y.z 9 = 2 ∨ p17 y.z 9 = 3 ∨ p17 y.z 9 = 4 ∨ p17 y.z 9 = 5 ∨ p17 y.z 9 = 6 ∨ p17 y.z 9 = 7 ∨ p17 y.z 9 = 8 := by omega
  unfold g26
  simp only [g17_ok _ (show (0 : Int) < 9 by omega), g17_ok _ (show (0 : Int) < 5 by omega)]
  rcases h9 with h | h | h | h | h | h | h | h | h <;> rw [h] <;> rfl

/-! ### the planes that are made -/
theorem planes_step {y : List IL} {P : Pg7_0} (h1 : P.ns1 = y.length) (h2 : P.gs1 = fun k => rJ (gJ y k)) {j : Nat} {l : List Pln} (hj : j < y.length) (hj4 : j < 4) (hl : l.length ≤ 100) :
    ∃ a c : Pln, st7_0 P ⟨l.length, j, mapL rP l⟩ = .next ⟨(l ++ [a, c]).length, ((j + 1 : Nat) : Int), mapL rP (l ++ [a, c])⟩ := by
  refine ⟨p25 (gJ y j), p26 (p25 (gJ y j)) ⟨P.ih0_0_3, P.ih0_0_4, P.ih0_0_5⟩, ?_⟩
  have e1 : (Nat.beq l.length l.length && Nat.ble ((l.length + 2) * 32) room) = true := by
    rw [Nat.beq_refl, Bool.true_and, Nat.ble_eq]
    unfold room
    omega
  have e2 : W ((j : Int) + 1) = ((j + 1 : Nat) : Int) := W_next (n := 4) hj4 (by omega)
  unfold st7_0 su7_0_0 ut7_0_0
  simp only [h1, h2, Int.toNat_natCast, len_mapL, e1, e2]
  have e3 : ∀ a c : Pln, app (mapL rP l) [[i a.n.x, i a.n.y, i a.n.z, i a.b], [i c.n.x, i c.n.y, i c.n.z, i c.b]] = mapL rP (l ++ [a, c]) := fun a c => app_mapL rP l [a, c]
  refine sel_l (dec_lt hj) (sel_l (decide_eq_true (by omega)) (sel_l (inB_nat hj) (sel_l rfl (sel_l (okInts_can _ _) (sel_l (g25_ok _) (sel_l (g26_ok _ _) (sel_l rfl ?_)))))))
  rw [← e3]
  simp only [List.length_append]
  rfl
theorem planes_loop {y : List IL} {P : Pg7_0} (h1 : P.ns1 = y.length) (h2 : P.gs1 = fun k => rJ (gJ y k)) (q : Pln) :
    ((lp (st7_0 P) ⟨1, 0, [[i q.n.x, i q.n.y, i q.n.z, i q.b]]⟩).1 = 1 ∨ (lp (st7_0 P) ⟨1, 0, [[i q.n.x, i q.n.y, i q.n.z, i q.b]]⟩).1 = 2) ∧ ∃ L : List Pln, (lp (st7_0 P) ⟨1, 0, [[i q.n.x, i q.n.y, i q.n.z, i q.b]]⟩).2.ns19 = L.length ∧ (lp (st7_0 P) ⟨1, 0, [[i q.n.x, i q.n.y, i q.n.z, i q.b]]⟩).2.eh6 = mapL rP L ∧ L.length ≤ 9 := by
  refine lp_inv2 (step := st7_0 P) (I := fun m (s : Sg7_0) => ∃ (j : Nat) (L : List Pln), m = 4 - j ∧ j ≤ 4 ∧ L.length = 1 + 2 * j ∧ s = ⟨L.length, j, mapL rP L⟩)
    (Q := fun t (s : Sg7_0) => (t = 1 ∨ t = 2) ∧ ∃ L : List Pln, s.ns19 = L.length ∧ s.eh6 = mapL rP L ∧ L.length ≤ 9) ?_ 4 _ (by omega) ⟨0, [q], rfl, by omega, rfl, rfl⟩
  rintro m s ⟨j, L, rfl, hj, hL, rfl⟩
  by_cases h : j < y.length
  · by_cases h4 : j < 4
    · obtain ⟨a, c, hs⟩ := planes_step h1 h2 (l := L) h h4 (by omega)
      exact .inr ⟨_, 4 - (j + 1), by omega, hs, j + 1, L ++ [a, c], rfl, by omega, by simp only [List.length_append, List.length_cons, List.length_nil]; omega, rfl⟩
    · refine .inl ⟨1, ?_, .inl rfl, L, rfl, rfl, by omega⟩
      unfold st7_0 su7_0_0 ut7_0_0
      simp only [h1]
      exact sel_l (dec_lt h) (sel_r (decide_eq_false (by omega)) rfl)
  · refine .inl ⟨2, ?_, .inr rfl, L, rfl, rfl, by omega⟩
    unfold st7_0 su7_0_0 ut7_0_0
    simp only [h1]
    exact sel_r (dec_nlt (by omega)) rfl

/-! ### one frame: all planes -/
section
variable {σ : Type} {R : σ → Prop} {c : Bool} {x y : Stp σ}
theorem exists_next {X Y : Stp σ} (h : Y = X) (k : ∃ s', X = .next s' ∧ R s') : ∃ s', Y = .next s' ∧ R s' := h ▸ k
theorem next_l (h : c = true) (k : ∃ s', x = .next s' ∧ R s') : ∃ s', sel c x y = .next s' ∧ R s' := by rw [h]; exact k
theorem next_r (h : c = false) (k : ∃ s', y = .next s' ∧ R s') : ∃ s', sel c x y = .next s' ∧ R s' := by rw [h]; exact k
theorem next_c (k : c = true → ∃ s', x = .next s' ∧ R s') (k' : c = false → ∃ s', y = .next s' ∧ R s') : ∃ s', sel c x y = .next s' ∧ R s' := by
  cases hc : c with
  | true => exact k hc
  | false => exact k' hc
end
theorem beq_pln (a : Pln × Bool) : (!((a.1.n.x == a.1.n.x) && ((a.1.n.y == a.1.n.y) && ((a.1.n.z == a.1.n.z) && ((a.1.b == a.1.b) && true))))) = false := by simp
theorem beq_vec (a : V3 × Bool) : (!((a.1.x == a.1.x) && ((a.1.y == a.1.y) && ((a.1.z == a.1.z) && true)))) = false := by simp
theorem beq_ok {α : Type} (a : α × Bool) : (!(a.2 == a.2)) = false := by simp
def Own (s : Sg7_2) (m : Nat) : Prop := (s.ph = 0 ∨ s.ph = 2) ∨ ((s.ph = 1 ∨ s.ph = 3) ∧ ∃ L : List Pln, s.ns30 = L.length ∧ s.eh4 = mapL rP L ∧ L.length ≤ m)
theorem rows_ok {L : List Pln} {j : Nat} (h : j < L.length) : (((Nat.blt (0 + j) (len (mapL rP L))) && (Nat.ble (0 + 4) (len (getRow (mapL rP L) (0 + j))))) && (okCKs [(CK.int .i64), (CK.int .i64), (CK.int .i64), (CK.int .i64)] (dropN (getRow (mapL rP L) (0 + j)) 0))) = true := by
  rw [Nat.zero_add, len_mapL, getRow_mapL rP ⟨⟨0, 0, 0⟩, 0⟩ h, show Nat.blt j L.length = true by rw [Nat.blt_eq]; exact h]
  rfl

/-- what a round leaves -/
theorem frame_step {L : List Pln} {P : Pg7_2} (h1 : P.eh2 = mapL rP L) (h2 : P.ns148 = L.length) (h3 : P.is149 = (L.length : Int)) (hL : L.length ≤ 9) {j : Nat} (hj : j < L.length) {s : Sg7_2} (hs : s.is150 = (j : Int)) (ho : Own s j) :
    ∃ s', st7_2 P s = .next s' ∧ s'.is150 = ((j + 1 : Nat) : Int) ∧ Own s' (j + 1) := by
  have e2 : W ((j : Int) + 1) = ((j + 1 : Nat) : Int) := W_next (n := 9) (by omega) (by omega)
  have e3 : ∀ (o : List Pln), o.length ≤ 9 → (Nat.beq o.length (len (mapL rP o)) && Nat.ble ((o.length + 1) * 32) room) = true := fun o h => by
    rw [len_mapL, Nat.beq_refl, Bool.true_and, Nat.ble_eq]
    unfold room
    omega
  have e4 : ∀ (o : List Pln) (a : Pln), app (mapL rP o) [[i a.n.x, i a.n.y, i a.n.z, i a.b]] = mapL rP (o ++ [a]) := fun o a => app_mapL rP o [a]
  unfold st7_2
  rcases ho with (hp | hp) | ⟨hp | hp, o, ho1, ho2, ho3⟩
  · rw [hp]
    refine exists_next (X := su7_2_0 P s) rfl ?_
    unfold su7_2_0 ut7_2_0
    simp only [h1, h2, h3, hs, Int.toNat_natCast, ← plane_eq, e2]
    refine next_l (dec_lt hj) (next_l (inB_nat hj) (next_l (rows_ok hj) (next_l (g28_ok _ _) (next_l (g29_ok _ _) (next_r (beq_pln _) (next_r (beq_ok _) (next_c (fun _ => ?_) (fun _ => ?_))))))))
    · exact ⟨_, rfl, rfl, .inr ⟨.inl rfl, [dRP (dropN (getRow (mapL rP L) (0 + j)) 0)], rfl, rfl, by simp⟩⟩
    · exact ⟨_, rfl, rfl, .inl (.inl rfl)⟩
  · rw [hp]
    refine exists_next (X := su7_2_2 P s) rfl ?_
    unfold su7_2_2 ut7_2_2
    simp only [h1, h2, h3, hs, Int.toNat_natCast, ← plane_eq, e2]
    refine next_l (dec_lt hj) (next_l (inB_nat hj) (next_l (rows_ok hj) (next_l (g28_ok _ _) (next_l (g29_ok _ _) (next_r (beq_pln _) (next_r (beq_ok _) (next_c (fun _ => ?_) (fun _ => ?_))))))))
    · exact ⟨_, rfl, rfl, .inr ⟨.inr rfl, [dRP (dropN (getRow (mapL rP L) (0 + j)) 0)], rfl, rfl, by simp⟩⟩
    · exact ⟨_, rfl, rfl, .inl (.inr rfl)⟩
  · rw [hp]
    refine exists_next (X := su7_2_1 P s) rfl ?_
    unfold su7_2_1 ut7_2_1
    simp only [h1, h2, h3, hs, Int.toNat_natCast, ← plane_eq, e2, ho1, ho2, e3 o (by omega), e4]
    refine next_l (dec_lt hj) (next_l (inB_nat hj) (next_l (rows_ok hj) (next_l (g28_ok _ _) (next_l (g29_ok _ _) (next_r (beq_pln _) (next_r (beq_ok _) (next_c (fun _ => next_l rfl ?_) (fun _ => ?_))))))))
    · exact ⟨_, rfl, rfl, .inr ⟨.inl rfl, o ++ [dRP (dropN (getRow (mapL rP L) (0 + j)) 0)], by simp, e4 o (dRP (dropN (getRow (mapL rP L) (0 + j)) 0)), by simp; omega⟩⟩
    · exact ⟨_, rfl, rfl, .inr ⟨.inl rfl, o, rfl, rfl, by omega⟩⟩
  · rw [hp]
    refine exists_next (X := su7_2_3 P s) rfl ?_
    unfold su7_2_3 ut7_2_3
    simp only [h1, h2, h3, hs, Int.toNat_natCast, ← plane_eq, e2, ho1, ho2, e3 o (by omega), e4]
    refine next_l (dec_lt hj) (next_l (inB_nat hj) (next_l (rows_ok hj) (next_l (g28_ok _ _) (next_l (g29_ok _ _) (next_r (beq_pln _) (next_r (beq_ok _) (next_c (fun _ => next_l rfl ?_) (fun _ => ?_))))))))
    · exact ⟨_, rfl, rfl, .inr ⟨.inr rfl, o ++ [dRP (dropN (getRow (mapL rP L) (0 + j)) 0)], by simp, e4 o (dRP (dropN (getRow (mapL rP L) (0 + j)) 0)), by simp; omega⟩⟩
    · exact ⟨_, rfl, rfl, .inr ⟨.inr rfl, o, rfl, rfl, by omega⟩⟩

theorem frame_end {L : List Pln} {P : Pg7_2} (h3 : P.is149 = (L.length : Int)) {s : Sg7_2} (hs : s.is150 = (L.length : Int)) {m : Nat} (ho : Own s m) :
    ∃ t, st7_2 P s = .exit t ∧ (((t = 2 ∨ t = 4)) ∨ ((t = 3 ∨ t = 5) ∧ ∃ o : List Pln, s.ns30 = o.length ∧ s.eh4 = mapL rP o ∧ o.length ≤ m)) := by
  have e : decide (s.is150 < P.is149) = false := by rw [hs, h3]; exact dec_nlt (Nat.le_refl _)
  unfold st7_2
  rcases ho with (hp | hp) | ⟨hp | hp, ho⟩ <;> rw [hp]
  · exact ⟨2, (show su7_2_0 P s = .exit 2 from sel_r e rfl), .inl (.inl rfl)⟩
  · exact ⟨4, (show su7_2_2 P s = .exit 4 from sel_r e rfl), .inl (.inr rfl)⟩
  · exact ⟨3, (show su7_2_1 P s = .exit 3 from sel_r e rfl), .inr ⟨.inl rfl, ho⟩⟩
  · exact ⟨5, (show su7_2_3 P s = .exit 5 from sel_r e rfl), .inr ⟨.inr rfl, ho⟩⟩
def Goods (m t : Nat) (s : Sg7_2) : Prop := (t = 2 ∨ t = 4) ∨ ((t = 3 ∨ t = 5) ∧ ∃ o : List Pln, s.ns30 = o.length ∧ s.eh4 = mapL rP o ∧ o.length ≤ m)
theorem frame_loop {L : List Pln} {P : Pg7_2} (h1 : P.eh2 = mapL rP L) (h2 : P.ns148 = L.length) (h3 : P.is149 = (L.length : Int)) (hL : L.length ≤ 9) {s : Sg7_2} (hs : s.is150 = 0) (hp : s.ph = 0 ∨ s.ph = 2) :
    Goods 9 (lp (st7_2 P) s).1 (lp (st7_2 P) s).2 := by
  refine lp_inv2 (step := st7_2 P) (I := fun m (s : Sg7_2) => ∃ j, m = L.length - j ∧ j ≤ L.length ∧ s.is150 = (j : Int) ∧ Own s j) (Q := Goods 9) ?_ L.length s (by omega) ⟨0, rfl, by omega, hs, .inl hp⟩
  rintro m s ⟨j, rfl, hj, hs, ho⟩
  by_cases h : j < L.length
  · obtain ⟨s', e1, e2, e3⟩ := frame_step h1 h2 h3 hL h hs ho
    exact .inr ⟨s', L.length - (j + 1), by omega, e1, j + 1, rfl, by omega, e2, e3⟩
  · have : j = L.length := by omega
    subst this
    obtain ⟨t, e1, e2⟩ := frame_end h3 hs ho
    refine .inl ⟨t, e1, e2.imp id fun ⟨a, o, b1, b2, b3⟩ => ⟨a, o, b1, b2, by omega⟩⟩
/-! ### all frames -/
theorem nil_rows : okPs 0 (fun _ => []) = true := rfl
theorem g30_le {f : Frm} {n : Nat} {get : Nat → List AVal} (h : n ≤ 9) : g30 f (lsP n get) = true := pd_true (by rw [lsRows_len]; omega)
theorem g31_le {f : Frm} {n : Nat} {get : Nat → List AVal} (h : n ≤ 9) : g31 f (lsP n get) = true := pd_true (by rw [lsRows_len]; omega)
theorem own_rows {L : List Pln} : okPs L.length (fun k => getRow (mapL rP L) (0 + k)) = true := okRows_blk (fun _ => rfl) (Nat.le_refl _)
theorem cell_len (f : Frm) (n : Nat) (get : Nat → List AVal) (h : n ≤ 9) : (p30 f (lsP n get)).1.length ≤ 9 := by
  unfold p30
  cases p56 f with
  | false => exact Nat.zero_le _
  | true =>
    cases hc : cellF (p28 f) (lsP n get) with
    | none => exact Nat.zero_le _
    | some l =>
      show l.length ≤ 9
      rw [cellF_len hc, lsRows_len]
      exact h
theorem can_rows (L : List Pln) : okPs (List.length L) (fun k => rP (gP L k)) = true := okRows_enc (fun _ => rfl) _ _
theorem can_ls (L : List Pln) : lsP (List.length L) (fun k => rP (gP L k)) = L := lsRows_enc (fun _ => rfl) L
theorem same_g {L : List Pln} (h : L.length ≤ 9) : g32 (lsP (List.length L) (fun k => rP (gP L k))) (lsP (List.length L) (fun k => rP (gP L k))) = true := by
  rw [can_ls]
  exact (same_eq L L (by omega)).2
theorem same_p {L : List Pln} (h : L.length ≤ 9) : (!(p32 (lsP (List.length L) (fun k => rP (gP L k))) (lsP (List.length L) (fun k => rP (gP L k))))) = false := by
  rw [can_ls, (same_eq L L (by omega)).1, pd_true rfl]
  rfl
end Go.Ev.T
namespace Go.Ev.T
open Go Go.Ev Go.Proofs
set_option maxRecDepth 100000
section
variable {R : Sg7_1 → Prop} {e z : Stp Sg7_1}
theorem cell_block {f : Frm} {n : Nat} {get : Nat → List AVal} {e1 e2 e3 e4 e5 e6 e7 e8 e9 : Stp Sg7_1} (hX : okPs n get = true) (h : n ≤ 9) (k : ∃ s', z = .next s' ∧ R s') :
    ∃ s', sel (okPs n get) (sel (g30 f (lsP n get)) (sel (okPs n get) (sel (g31 f (lsP n get)) (sel (!((p30 f (lsP n get)).2 == (p31 f (lsP n get)).2)) e1
      (sel (okPs (List.length (p30 f (lsP n get)).1) (fun k => rP (gP (p30 f (lsP n get)).1 k))) (sel (okPs (List.length (p31 f (lsP n get)).1) (fun k => rP (gP (p31 f (lsP n get)).1 k)))
      (sel (g32 (lsP (List.length (p30 f (lsP n get)).1) (fun k => rP (gP (p30 f (lsP n get)).1 k))) (lsP (List.length (p31 f (lsP n get)).1) (fun k => rP (gP (p31 f (lsP n get)).1 k))))
      (sel (!(p32 (lsP (List.length (p30 f (lsP n get)).1) (fun k => rP (gP (p30 f (lsP n get)).1 k))) (lsP (List.length (p31 f (lsP n get)).1) (fun k => rP (gP (p31 f (lsP n get)).1 k))))) e2 z) e3) e4) e5)) e6) e7) e8) e9 = .next s' ∧ R s' :=
  next_l hX (next_l (g30_le h) (next_l hX (next_l (g31_le h) (next_r (beq_ok (p30 f (lsP n get))) (next_l (can_rows _) (next_l (can_rows _) (next_l (same_g (cell_len f n get h)) (next_r (same_p (cell_len f n get h)) k))))))))
theorem vec_block {f : Frm} {v : V3} {e1 e2 e3 e4 : Stp Sg7_1} (k : ∃ s', z = .next s' ∧ R s') :
    ∃ s', sel (g22 f v) (sel (g27 f v) (sel (!(((p22 f v).1.x == (p27 f v).1.x) && (((p22 f v).1.y == (p27 f v).1.y) && (((p22 f v).1.z == (p27 f v).1.z) && true)))) e1
      (sel (!((p22 f v).2 == (p27 f v).2)) e2 z)) e3) e4 = .next s' ∧ R s' := by
  rw [← apply_eq]
  exact next_l (g22_all f v) (next_l (g27_ok f v) (next_r (beq_vec _) (next_r (beq_ok _) k)))
theorem tags_block {r : Nat × Sg7_2} {A B C D : Stp Sg7_1} (hg : Goods 9 r.1 r.2) (kA : ∃ s', A = .next s' ∧ R s') (kC : ∃ s', C = .next s' ∧ R s')
    (kB : ∀ o : List Pln, r.2.ns30 = o.length → r.2.eh4 = mapL rP o → o.length ≤ 9 → ∃ s', B = .next s' ∧ R s') (kD : ∀ o : List Pln, r.2.ns30 = o.length → r.2.eh4 = mapL rP o → o.length ≤ 9 → ∃ s', D = .next s' ∧ R s') :
    ∃ s', sel (Nat.beq r.1 1) e (sel (Nat.beq r.1 2) A (sel (Nat.beq r.1 3) B (sel (Nat.beq r.1 4) C (sel (Nat.beq r.1 5) D .fail)))) = .next s' ∧ R s' := by
  obtain ⟨t, s⟩ := r
  rcases hg with (h | h) | ⟨h | h, o, h1, h2, h3⟩ <;> (have h : t = _ := h; subst h)
  · exact kA
  · exact kC
  · exact kB o h1 h2 h3
  · exact kD o h1 h2 h3
end
theorem all_step {L : List Pln} {P : Pg7_1} (h1 : P.eh2 = mapL rP L) (h2 : P.ns19 = L.length) (hL : L.length ≤ 9) {s : Sg7_1} (hk : s.is102 = 0 ∨ s.is102 = 1 ∨ s.is102 = 2) (hp : s.ph = 0 ∨ s.ph = 1) :
    ∃ s', st7_1 P s = .next s' ∧ s'.is102 = s.is102 + 1 ∧ (s'.ph = 0 ∨ s'.ph = 1) := by
  have e2 : W (s.is102 + 1) = s.is102 + 1 := W_id (by omega) (by omega)
  have e1 : decide (s.is102 < 3) = true := decide_eq_true (by omega)
  have e3 : inB s.is102 3 = true := by rcases hk with h | h | h <;> rw [h] <;> rfl
  have own : ∀ {o : List Pln} {n : Nat} {els : List (List AVal)}, n = o.length → els = mapL rP o → okPs n (fun i => getRow els (0 + i)) = true := fun {o n els} a c => by rw [a, c]; exact own_rows
  have e4 : ∀ x : AVal × AVal, True := fun _ => trivial
  unfold st7_1
  rcases hp with hp | hp <;> rw [hp]
  · refine exists_next (X := su7_1_0 P s) rfl ?_
    unfold su7_1_0 ut7_1_0
    refine next_l e1 (next_l e3 (next_l ?_ (vec_block (vec_block (vec_block (tags_block (frame_loop h1 h2 (by rw [h2]) hL rfl (.inl rfl))
      (cell_block nil_rows (by omega) (cell_block (own h2 h1) (by omega) (cell_block nil_rows (by omega) ⟨_, rfl, e2, .inr rfl⟩)))
      (cell_block nil_rows (by omega) (cell_block (own h2 h1) (by omega) (cell_block nil_rows (by omega) ⟨_, rfl, e2, .inr rfl⟩)))
      (fun o a c d => cell_block (own a c) (by omega) (cell_block (own h2 h1) (by omega) (cell_block nil_rows (by omega) ⟨_, rfl, e2, .inr rfl⟩)))
      (fun o a c d => cell_block (own a c) (by omega) (cell_block (own h2 h1) (by omega) (cell_block nil_rows (by omega) ⟨_, rfl, e2, .inr rfl⟩)))))))))
    rcases hk with h | h | h <;> rw [h] <;> rfl
  · refine exists_next (X := su7_1_1 P s) rfl ?_
    unfold su7_1_1 ut7_1_1
    refine next_l e1 (next_l e3 (next_l ?_ (vec_block (vec_block (vec_block (tags_block (frame_loop h1 h2 (by rw [h2]) hL rfl (.inr rfl))
      (cell_block nil_rows (by omega) (cell_block (own h2 h1) (by omega) (cell_block nil_rows (by omega) ⟨_, rfl, e2, .inr rfl⟩)))
      (cell_block nil_rows (by omega) (cell_block (own h2 h1) (by omega) (cell_block nil_rows (by omega) ⟨_, rfl, e2, .inr rfl⟩)))
      (fun o a c d => cell_block (own a c) (by omega) (cell_block (own h2 h1) (by omega) (cell_block nil_rows (by omega) ⟨_, rfl, e2, .inr rfl⟩)))
      (fun o a c d => cell_block (own a c) (by omega) (cell_block (own h2 h1) (by omega) (cell_block nil_rows (by omega) ⟨_, rfl, e2, .inr rfl⟩)))))))))
    rcases hk with h | h | h <;> rw [h] <;> rfl
theorem all_loop {L : List Pln} {P : Pg7_1} (h1 : P.eh2 = mapL rP L) (h2 : P.ns19 = L.length) (hL : L.length ≤ 9) {s : Sg7_1} (hk : s.is102 = 0) (hp : s.ph = 0) : (lp (st7_1 P) s).1 = 2 ∨ (lp (st7_1 P) s).1 = 3 := by
  refine lp_inv2 (step := st7_1 P) (I := fun m (s : Sg7_1) => ∃ j : Nat, m = 3 - j ∧ j ≤ 3 ∧ s.is102 = (j : Int) ∧ (s.ph = 0 ∨ s.ph = 1)) (Q := fun t _ => t = 2 ∨ t = 3) ?_ 3 s (by omega) ⟨0, rfl, by omega, hk, .inl hp⟩
  rintro m s ⟨j, rfl, hj, hs, hp⟩
  by_cases h : j < 3
  · obtain ⟨s', e1, e2, e3⟩ := all_step h1 h2 hL (s := s) (by omega) hp
    exact .inr ⟨s', 3 - (j + 1), by omega, e1, j + 1, rfl, by omega, by rw [e2, hs]; rfl, e3⟩
  · have e : decide (s.is102 < 3) = false := decide_eq_false (by omega)
    unfold st7_1
    rcases hp with hp | hp <;> rw [hp]
    · exact .inl ⟨2, (show su7_1_0 P s = .exit 2 from sel_r e rfl), .inl rfl⟩
    · exact .inl ⟨3, (show su7_1_1 P s = .exit 3 from sel_r e rfl), .inr rfl⟩
theorem moves_fin {y : List IL} {P : Pg7_0} {P1 : Pg7_1} {s : Sg7_1} (r : Pln) (h1 : P.ns1 = y.length) (h2 : P.gs1 = fun k => rJ (gJ y k)) (a : P1.eh2 = (lp (st7_0 P) ⟨1, 0, [[i r.n.x, i r.n.y, i r.n.z, i r.b]]⟩).2.eh6)
    (c : P1.ns19 = (lp (st7_0 P) ⟨1, 0, [[i r.n.x, i r.n.y, i r.n.z, i r.b]]⟩).2.ns19) (hk : s.is102 = 0) (hp : s.ph = 0) :
    (!(Nat.beq (lp (st7_1 P1) s).1 1)) = true ∧ (sel (Nat.beq (lp (st7_0 P) ⟨1, 0, [[i r.n.x, i r.n.y, i r.n.z, i r.b]]⟩).1 1) ((Nat.beq (lp (st7_1 P1) s).1 1) || ((Nat.beq (lp (st7_1 P1) s).1 2) || (Nat.beq (lp (st7_1 P1) s).1 3))) ((Nat.beq (lp (st7_0 P) ⟨1, 0, [[i r.n.x, i r.n.y, i r.n.z, i r.b]]⟩).1 2) && ((Nat.beq (lp (st7_1 P1) s).1 1) || ((Nat.beq (lp (st7_1 P1) s).1 2) || (Nat.beq (lp (st7_1 P1) s).1 3))))) = true := by
  obtain ⟨ht, L, e1, e2, e3⟩ := planes_loop h1 h2 r
  have hl := all_loop (L := L) (P := P1) (s := s) (by rw [a, e2]) (by rw [c, e1]) e3 hk hp
  rcases ht with ht | ht <;> rcases hl with h | h <;> rw [ht, h] <;> exact ⟨rfl, rfl⟩
theorem moves_all (l : IL) (p : List IL) (q : Q2) (w v : V3) (r : Pln) : p7 l p q w v r = true ∧ g7 l p q w v r = true := by
  unfold p7 g7
  simp only [okInts_can, g10_ok, g11_ok, g17_ok _ (show (0 : Int) < 9 by omega), Bool.true_and]
  exact moves_fin (y := p) r rfl rfl rfl rfl rfl rfl
theorem law7 (l : IL) (p : List IL) (q : Q2) (w v : V3) (r : Pln) : (S7 [cL.enc l, cJL.enc p, cQ.enc q, cV.enc w, cV.enc v, cP.enc r] []).run = some (b true, []) := by
  obtain ⟨p', hp, _⟩ := exactCod_dec eJL p
  have h : (S7 [cL.enc l, cJL.enc p, cQ.enc q, cV.enc w, cV.enc v, cP.enc r] []) = (onO (cJL.dec (cJL.enc p)) fun p' => DT.guard (okInts l.n fun k => [i (l.g k)]) (.guard true (.guard true (.guard true (.guard true (.guard true (DT.guard (g7 l p' q w v r) (.ret (b (p7 l p' q w v r), []))))))))) := rfl
  rw [h, show cJL.dec (cJL.enc p) = some p' from hp]
  show (DT.guard (okInts l.n fun k => [i (l.g k)]) (.guard true (.guard true (.guard true (.guard true (.guard true (DT.guard (g7 l p' q w v r) (.ret (b (p7 l p' q w v r), []))))))))).run = _
  rw [okInts_can, (moves_all l p' q w v r).1, (moves_all l p' q w v r).2]
  rfl
end Go.Ev.T
