/- Made ledgers (own work). -/
import Derived.Test.YtblhkhjdkjjheaaEvXB
import Derived.Test.YtblhkhjdkjjheaaEvLaw
set_option linter.unusedVariables false
set_option linter.unusedSimpArgs false
set_option linter.unnecessarySimpa false
set_option linter.unusedSectionVars false
namespace Go.Ev.W.X
open Go Go.Ev Go.Ev.W Go.Proofs
set_option maxRecDepth 100000
theorem mod_range {a b : Int} (hb : 0 < b) (hb2 : b < 100000) : 0 ≤ p19 a b ∧ p19 a b < b := by
  unfold p19
  rw [show decide (b < 1) = false from decide_eq_false (by omega)]
  have h1 : Int.tmod a b < b := Int.tmod_lt_of_pos a hb
  have h2 : -b < Int.tmod a b := Int.lt_tmod_of_pos a hb
  show 0 ≤ Int.tmod (W (Int.tmod a b + b)) b ∧ Int.tmod (W (Int.tmod a b + b)) b < b
  rw [W_id (by omega) (by omega)]
  exact ⟨Int.tmod_nonneg _ (by omega), Int.tmod_lt_of_pos _ hb⟩
theorem g19_ok (a : Int) {b : Int} (hb : 0 < b) : g19 a b = true := by
  unfold g19
  rw [show (b == 0) = false from beq_eq_false_iff_ne.2 (by omega)]
  simp
theorem draw_ok {m : Int} (hm : 0 < m) (hm2 : m < 1000) (l : IL) {c : Int} (hc : 0 ≤ c ∧ c ≤ 1000) : ∃ v c', p28u ⟨m, l.n, fun k => [i (l.g k)], c⟩ = ⟨1, v, c'⟩ ∧ (c ≤ c' ∧ c' ≤ c + 1) ∧ 0 ≤ v ∧ v < m := by
  unfold p28u
  simp only
  by_cases h : c ≥ (l.n : Int)
  · exact ⟨0, c, sel_l (decide_eq_true h) rfl, by omega, by omega, by omega⟩
  · have e1 : W (W (c + 1) - 1) = c := by rw [W_id (n := c + 1) (by omega) (by omega), W_id (by omega) (by omega)]; omega
    have e2 : inB c l.n = true := by
      obtain ⟨k, rfl⟩ := Int.eq_ofNat_of_zero_le hc.1
      exact inB_nat (by omega)
    rw [e1]
    have hr := mod_range (a := toI (hdA [i (l.g c.toNat)])) hm (by omega)
    refine ⟨_, _, sel_r (decide_eq_false h) (sel_l e2 (sel_l rfl (sel_l (g19_ok _ hm) rfl))), ?_, hr.1, hr.2⟩
    rw [W_id (by omega) (by omega)]
    omega
/-! ### sorted lists stay sorted -/
theorem upd_srtF : ∀ (l : List Ent) (c u : Ent), srtF c l = true → p33 c u = true → srtF c (upd l u) = true
  | [], c, u, h, hc => by
    rw [upd_nil]
    show (p33 c u && true) = true
    rw [hc]; rfl
  | x :: l, c, u, h, hc => by
    have h : (p33 c x && srtF x l) = true := h
    rw [Bool.and_eq_true] at h
    rw [upd_cons]
    rcases tri x u with ⟨h1, h2, h3⟩ | ⟨h1, h2, h3⟩ | ⟨h1, h2, h3⟩
    · rw [h1]
      show (p33 c x && srtF x (upd l u)) = true
      rw [h.1, upd_srtF l x u h.2 h1]; rfl
    · rw [h1, h3]
      show (p33 c u && (p33 u x && srtF x l)) = true
      rw [hc, h2, h.2]; rfl
    · rw [h1, h3]
      show (p33 c (comb x u) && srtF (comb x u) l) = true
      have e1 : p33 c (comb x u) = p33 c x := rfl
      have e2 : srtF (comb x u) l = srtF x l := by cases l <;> rfl
      rw [e1, e2, h.1, h.2]; rfl
theorem upd_srt {l : List Ent} {u : Ent} (h : srt l = true) : srt (upd l u) = true := by
  cases l with
  | nil => rw [upd_nil]; rfl
  | cons x l =>
    rw [upd_cons]
    rcases tri x u with ⟨h1, h2, h3⟩ | ⟨h1, h2, h3⟩ | ⟨h1, h2, h3⟩
    · rw [h1]
      exact upd_srtF l x u h h1
    · rw [h1, h3]
      show (p33 u x && srtF x l) = true
      have h : srtF x l = true := h
      rw [h2, h]; rfl
    · rw [h1, h3]
      show srtF (comb x u) l = true
      have e2 : srtF (comb x u) l = srtF x l := by cases l <;> rfl
      rw [e2]; exact h
theorem mem_ins {l : List Ent} {u e : Ent} (h : e ∈ ins l u) : e ∈ l ∨ e = u := by
  unfold ins at h
  rcases List.mem_append.1 h with h | h
  · exact .inl (List.mem_of_mem_take h)
  · rcases List.mem_cons.1 h with h | h
    · exact .inr h
    · exact .inl (List.mem_of_mem_drop h)
theorem ins_upd {l : List Ent} {u : Ent} (h : hasK l (ix l u) u = false) : upd l u = ins l u := by unfold upd; exact sel_r h rfl
/-- a ledger as Uses makes it -/
structure Made (l : List Ent) : Prop where
  srt : srt l = true
  len : l.length ≤ 8
  num : ∀ e ∈ l, (0 ≤ e.t ∧ e.t ≤ 2) ∧ (0 ≤ e.o ∧ e.o ≤ 3) ∧ 0 ≤ e.l ∧ e.l ≤ e.h ∧ e.h ≤ 30
theorem num_ok {e : Ent} (h : (0 ≤ e.t ∧ e.t ≤ 2) ∧ (0 ≤ e.o ∧ e.o ≤ 3) ∧ 0 ≤ e.l ∧ e.l ≤ e.h ∧ e.h ≤ 30) : p30 e = false := by
  rw [valid_bad]
  unfold p32
  rw [Bool.not_eq_false']
  simp only [Bool.and_eq_true, decide_eq_true_eq]
  omega
theorem chk_zero {l : List Ent} (h1 : srt l = true) (h2 : l.length ≤ 100) (h3 : ∀ e ∈ l, p30 e = false) : chk l = 0 := by
  unfold chk
  have e : l.any p30 = false := by
    rw [← Bool.not_eq_true, List.any_eq_true]
    rintro ⟨x, hx, hp⟩
    rw [h3 x hx] at hp; cases hp
  exact sel_r (decide_eq_false (by omega)) (sel_r e (sel_l h1 rfl))
theorem Made.chk0 {l : List Ent} (h : Made l) : chk l = 0 := chk_zero h.srt (by have := h.len; omega) fun e he => num_ok (h.num e he)
/-- what a draw adds -/
theorem Made.add' {l : List Ent} {u : Ent} {n : Nat} (h : Made l) (hn : l.length ≤ n) (hn8 : n < 8) (hu : (0 ≤ u.t ∧ u.t ≤ 2) ∧ (0 ≤ u.o ∧ u.o ≤ 3) ∧ 0 ≤ u.l ∧ u.l ≤ u.h ∧ u.h ≤ 30) (h0 : (add l u).2 = 0) :
    Made (add l u).1 ∧ (add l u).1.length ≤ n + 1 ∧ (add l u).1 ≠ [] := by
  have c1 : (chk l != 0) = false := by rw [h.chk0]; rfl
  have c2 := num_ok hu
  cases c3 : hasK l (ix l u) u with
  | true =>
    cases c4 : decide (gE l (ix l u) = u) with
    | true =>
      have ea : X.add l u = (l, 0) := by unfold X.add; exact sel_r c1 (sel_r c2 (sel_l c3 (sel_l c4 rfl)))
      rw [ea]
      refine ⟨h, by show l.length ≤ n + 1; omega, fun hz => ?_⟩
      have hz : l = [] := hz
      have := hasK_lt c3
      rw [hz] at this
      simp at this
    | false =>
      have ea : X.add l u = ([], 6) := by unfold X.add; exact sel_r c1 (sel_r c2 (sel_l c3 (sel_r c4 rfl)))
      rw [ea] at h0; cases h0
  | false =>
    have hl8 := h.len
    have ea : X.add l u = (ins l u, 0) := by unfold X.add; exact sel_r c1 (sel_r c2 (sel_r c3 (sel_r (decide_eq_false (by omega)) rfl)))
    rw [ea]
    have e3 : (ins l u).length = l.length + 1 := by unfold ins; have := ix_le l u; simp; omega
    refine ⟨⟨?_, by show (ins l u).length ≤ 8; omega, fun e he => ?_⟩, by show (ins l u).length ≤ n + 1; omega, fun hz => ?_⟩
    · rw [← ins_upd c3]; exact upd_srt h.srt
    · rcases mem_ins he with he | rfl
      · exact h.num e he
      · exact hu
    · have hz : ins l u = [] := hz
      rw [hz] at e3; simp at e3
theorem made_nil : Made [] := ⟨rfl, by simp, fun e he => by simp at he⟩
/-! ### Uses -/
def Rep (s : Sg10_0) (l : List Ent) : Prop := (s.ph = 0 ∧ l = [] ∧ s.ns3 = 0 ∧ s.gs3 = fun _ => []) ∨ (s.ph = 1 ∧ l ≠ [] ∧ s.ns3 = l.length ∧ s.gs3 = fun k => rE (gE l k))
theorem step10 (x : List IL) {gs : Nat → List AVal} (hgs : ∀ k, k < x.length → gs k = rJ (gJ x k)) {s : Sg10_0} {l : List Ent} {j : Nat} (hj : j < x.length) (hj8 : j < 8) (hs : s.is4 = (j : Int)) (hr : Rep s l) (hl : l.length ≤ 1000) :
    ∃ u s', ((0 ≤ u.t ∧ u.t ≤ 2) ∧ (0 ≤ u.o ∧ u.o ≤ 3) ∧ 0 ≤ u.l ∧ u.l ≤ u.h ∧ u.h ≤ 30) ∧ st10_0 ⟨x.length, gs⟩ s = .next s' ∧ s'.is4 = ((j + 1 : Nat) : Int) ∧
      (((add l u).2 = 0 ∧ s'.ph = 1 ∧ s'.ns3 = (add l u).1.length ∧ s'.gs3 = fun k => rE (gE (add l u).1 k)) ∨ Rep s' l) := by
  obtain ⟨ph, is4, ns3, gs3⟩ := s
  simp only at hs
  subst hs
  obtain ⟨v1, c1, h1, k1, r1⟩ := draw_ok (m := 3) (by omega) (by omega) (gJ x j) (c := 0) (by omega)
  obtain ⟨v2, c2, h2, k2, r2⟩ := draw_ok (m := 4) (by omega) (by omega) (gJ x j) (c := c1) (by omega)
  obtain ⟨v3, c3, h3, k3, r3⟩ := draw_ok (m := 20) (by omega) (by omega) (gJ x j) (c := c2) (by omega)
  obtain ⟨v4, c4, h4, k4, r4⟩ := draw_ok (m := 12) (by omega) (by omega) (gJ x j) (c := c3) (by omega)
  have hw : W (v3 + v4) = v3 + v4 := W_id (by omega) (by omega)
  refine ⟨⟨v1, v2, v3, v3 + v4⟩, ?_⟩
  have hu : (0 ≤ v1 ∧ v1 ≤ 2) ∧ (0 ≤ v2 ∧ v2 ≤ 3) ∧ 0 ≤ v3 ∧ v3 ≤ v3 + v4 ∧ v3 + v4 ≤ 30 := by omega
  have e1 : toN (hdA (rJ (gJ x j))) = (gJ x j).n := rfl
  have e2 : toG (hdA (rJ (gJ x j))) = fun k => [i ((gJ x j).g k)] := rfl
  have e0 := hgs j hj
  have d8 : decide ((j : Int) < 8) = true := decide_eq_true (by omega)
  have hg : gA l ⟨v1, v2, v3, v3 + v4⟩ = true := decide_eq_true (by omega)
  have hg0 : gA [] ⟨v1, v2, v3, v3 + v4⟩ = true := decide_eq_true (by simp)
  rcases hr with ⟨hp, rfl, hn, hgs'⟩ | ⟨hp, hne, hn, hgs'⟩
  · simp only at hp hn hgs'
    subst hp hn hgs'
    cases hc : ((add [] ⟨v1, v2, v3, v3 + v4⟩).2 == 0) with
    | true =>
      refine ⟨⟨1, ((j + 1 : Nat) : Int), (add [] ⟨v1, v2, v3, v3 + v4⟩).1.length, fun k => rE (gE (add [] ⟨v1, v2, v3, v3 + v4⟩).1 k)⟩, hu, ?_, rfl, .inl ⟨beq_iff_eq.1 hc, rfl, rfl, rfl⟩⟩
      simp only [st10_0, su10_0_0, dec_lt hj, d8, inB_nat hj, Int.toNat_natCast, e0, e1, e2, h1, h2, h3, h4, hw, hg0, pA, hc, W_next hj8 (show 8 ≤ 4611686018427387904 by omega)]
      rfl
    | false =>
      refine ⟨⟨0, ((j + 1 : Nat) : Int), 0, fun _ => []⟩, hu, ?_, rfl, .inr (.inl ⟨rfl, rfl, rfl, rfl⟩)⟩
      simp only [st10_0, su10_0_0, dec_lt hj, d8, inB_nat hj, Int.toNat_natCast, e0, e1, e2, h1, h2, h3, h4, hw, hg0, pA, hc, W_next hj8 (show 8 ≤ 4611686018427387904 by omega)]
      rfl
  · simp only at hp hn hgs'
    subst hp hn hgs'
    cases hc : ((add l ⟨v1, v2, v3, v3 + v4⟩).2 == 0) with
    | true =>
      refine ⟨⟨1, ((j + 1 : Nat) : Int), (add l ⟨v1, v2, v3, v3 + v4⟩).1.length, fun k => rE (gE (add l ⟨v1, v2, v3, v3 + v4⟩).1 k)⟩, hu, ?_, rfl, .inl ⟨beq_iff_eq.1 hc, rfl, rfl, rfl⟩⟩
      simp only [st10_0, su10_0_1, dec_lt hj, d8, inB_nat hj, Int.toNat_natCast, e0, e1, e2, h1, h2, h3, h4, hw, ls_id, ok_id, hg, pA, hc, W_next hj8 (show 8 ≤ 4611686018427387904 by omega)]
      rfl
    | false =>
      refine ⟨⟨1, ((j + 1 : Nat) : Int), l.length, fun k => rE (gE l k)⟩, hu, ?_, rfl, .inr (.inr ⟨rfl, hne, rfl, rfl⟩)⟩
      simp only [st10_0, su10_0_1, dec_lt hj, d8, inB_nat hj, Int.toNat_natCast, e0, e1, e2, h1, h2, h3, h4, hw, ls_id, ok_id, hg, pA, hc, W_next hj8 (show 8 ≤ 4611686018427387904 by omega)]
      rfl
theorem loop10 (x : List IL) {gs : Nat → List AVal} (hgs : ∀ k, k < x.length → gs k = rJ (gJ x k)) :
    ∃ L, Made L ∧ let r := lp (st10_0 ⟨x.length, gs⟩) ⟨0, 0, 0, fun _ => []⟩
      ((r.1 = 1 ∨ r.1 = 2) ∧ L = []) ∨ ((r.1 = 3 ∨ r.1 = 4) ∧ r.2.ns3 = L.length ∧ r.2.gs3 = fun k => rE (gE L k)) := by
  refine lp_inv2 (step := st10_0 ⟨x.length, gs⟩) (I := fun m (s : Sg10_0) => ∃ (j : Nat) (L : List Ent), 8 - j ≤ m ∧ j ≤ 8 ∧ s.is4 = (j : Int) ∧ Made L ∧ L.length ≤ j ∧ Rep s L)
    (Q := fun t (s : Sg10_0) => ∃ L, Made L ∧ (((t = 1 ∨ t = 2) ∧ L = []) ∨ ((t = 3 ∨ t = 4) ∧ s.ns3 = L.length ∧ s.gs3 = fun k => rE (gE L k)))) (fun m s hi => ?_) 8 _ (by omega) ⟨0, [], by omega, by omega, rfl, made_nil, by simp, .inl ⟨rfl, rfl, rfl, rfl⟩⟩
  obtain ⟨j, L, hm, hj, hs, hL, hlen, hr⟩ := hi
  by_cases h1 : j < x.length ∧ j < 8
  · obtain ⟨u, s', hu, hst, his, hc⟩ := step10 x hgs h1.1 h1.2 hs hr (by omega)
    refine .inr ⟨s', m - 1, by omega, hst, ?_⟩
    rcases hc with ⟨h0, hp, hn, hg⟩ | hc
    · obtain ⟨m1, m2, m3⟩ := hL.add' hlen h1.2 hu h0
      exact ⟨j + 1, _, by omega, by omega, his, m1, m2, .inr ⟨hp, m3, hn, hg⟩⟩
    · exact ⟨j + 1, L, by omega, by omega, his, hL, by omega, hc⟩
  · obtain ⟨ph, is4, ns3, gs3⟩ := s
    simp only at hs
    subst hs
    by_cases h2 : j < x.length
    · have h8 : ¬ j < 8 := fun h => h1 ⟨h2, h⟩
      have d8 : decide ((j : Int) < 8) = false := decide_eq_false (by omega)
      rcases hr with ⟨hp, hz, hn, hgs⟩ | ⟨hp, hne, hn, hgs⟩
      · simp only at hp
        subst hp
        refine .inl ⟨1, ?_, L, hL, .inl ⟨.inl rfl, hz⟩⟩
        simp only [st10_0, su10_0_0, dec_lt h2, d8]
        rfl
      · simp only at hp
        subst hp
        refine .inl ⟨3, ?_, L, hL, .inr ⟨.inl rfl, hn, hgs⟩⟩
        simp only [st10_0, su10_0_1, dec_lt h2, d8]
        rfl
    · rcases hr with ⟨hp, hz, hn, hgs⟩ | ⟨hp, hne, hn, hgs⟩
      · simp only at hp
        subst hp
        refine .inl ⟨2, ?_, L, hL, .inl ⟨.inr rfl, hz⟩⟩
        simp only [st10_0, su10_0_0, dec_nlt (show x.length ≤ j by omega)]
        rfl
      · simp only at hp
        subst hp
        refine .inl ⟨4, ?_, L, hL, .inr ⟨.inr rfl, hn, hgs⟩⟩
        simp only [st10_0, su10_0_1, dec_nlt (show x.length ≤ j by omega)]
        rfl
noncomputable def isJ (a : Ag10) : Prop := ∃ x : List IL, a.ns0 = x.length ∧ ∀ k, k < x.length → a.gs0 k = rJ (gJ x k)
theorem uses10 (a : Ag10) (h : isJ a) : ∃ L, Made L ∧ ∃ r o, (ko10 a (p10u a)).run = some (r, o) ∧ LeRes r o (eEL L) := by
  obtain ⟨n, gs⟩ := a
  obtain ⟨x, hn, hgs⟩ := h
  simp only at hn hgs
  subst hn
  obtain ⟨L, hL, hl⟩ := loop10 x hgs
  refine ⟨L, hL, ?_⟩
  simp only at hl
  unfold p10u
  rcases hl with ⟨h1 | h1, h2⟩ | ⟨h1 | h1, h2, h3⟩
  · simp only [h1]; rw [h2]; exact ⟨.v (.slice none 0 0), [], rfl, ⟨.v (.slice none 0 0), rfl, ALe.nilTree _ _⟩⟩
  · simp only [h1]; rw [h2]; exact ⟨.v (.slice none 0 0), [], rfl, ⟨.v (.slice none 0 0), rfl, ALe.nilTree _ _⟩⟩
  · simp only [h1, h2, h3]; exact ⟨_, _, rfl, ⟨_, rfl, ALe.refl _⟩⟩
  · simp only [h1, h2, h3]; exact ⟨_, _, rfl, ⟨_, rfl, ALe.refl _⟩⟩
noncomputable def p10 (a : Ag10) : List Ent := @dite _ (isJ a) (Classical.propDecidable _) (fun h => (uses10 a h).choose) fun _ => []
noncomputable def g10 (a : Ag10) : Bool := @decide (isJ a) (Classical.propDecidable _)
theorem made10 (a : Ag10) : Made (p10 a) := by
  unfold p10
  by_cases h : isJ a
  · rw [dif_pos h]; exact (uses10 a h).choose_spec.1
  · rw [dif_neg h]; exact made_nil
theorem isJ_of (x : List IL) : isJ ⟨x.length, fun k => rJ (gJ x k)⟩ := ⟨x, rfl, fun _ _ => rfl⟩
theorem g10_of {a : Ag10} (h : isJ a) : g10 a = true := @decide_eq_true _ (Classical.propDecidable _) h
noncomputable def S10t : Sum := sumA aa10 fun a => .guard (g10 a) (.ret (eEL (p10 a), []))
theorem sumA_conv {π : Type} {P : Program} {G : Nat → List Value} {f : FuncId} {x : Alt π Unit} {k k' : π → DT (AVal × List ABlk)} (hx : x.bl = []) (h : FnOk P G f (sumA x k))
    (hk : ∀ a y out, (k' a).run = some (y, out) → out = [] ∧ ∃ r o, (k a).run = some (r, o) ∧ LeRes r o y) : FnOk P G f (sumA x k') := h.conv fun args blks y out hr => by
  unfold sumA at hr
  have hbl : ∀ q, decA [x] ⟨args, blks⟩ = some q → blks = [] := fun q hq => by
    have hq : sel (Bool.and (isSls x.sh args) (isBks x.bl blks)) (some (x.rd (asSls x.sh args) (asBks x.bl blks))) none = some q := hq
    cases hb : Bool.and (isSls x.sh args) (isBks x.bl blks) with
    | false => rw [hb] at hq; cases hq
    | true =>
      simp only [Bool.and_eq_true] at hb
      have := isBks_as hb.2
      rw [hx] at this
      exact this
  cases hd : decA [x] ⟨args, blks⟩ with
  | none => rw [hd] at hr; cases hr
  | some q =>
    have hb := hbl q hd
    subst hb
    rw [hd] at hr
    obtain ⟨e1, r, o, e2, e3⟩ := hk q.1 y out hr
    refine ⟨rfl, e1, r, o, ?_, e3⟩
    unfold sumA
    rw [hd]
    exact e2
theorem ok10t : FnOk Try.prog G 10 S10t := sumA_conv rfl ok10u fun a y out h => by
  obtain ⟨h1, rfl, rfl⟩ := guard_some h
  have hj : isJ a := @of_decide_eq_true _ (Classical.propDecidable _) h1
  refine ⟨rfl, ?_⟩
  unfold p10
  rw [dif_pos hj]
  exact (uses10 a hj).choose_spec.2
end Go.Ev.W.X
namespace Go.Ev.W.X
open Go Go.Ev Go.Ev.W Go.Proofs
set_option maxRecDepth 100000
theorem leOwn1 (l : List Ent) : LeRes (.sl 0 0 l.length 0) [⟨27, 4, mapL rE l, true, false, 0⟩] (eEL l) :=
  ⟨.tree 4 l.length fun k => getRow (mapL rE l) (0 + k), rfl, fun ρ H F w v h => by
    cases h with
    | val h => exact .val (VRel.treeLe (fun k hk => by rw [Nat.zero_add]; exact (getRow_mapL rE _ hk).symm) h)⟩
end Go.Ev.W.X
namespace Go.Ev.W.X
open Go Go.Ev Go.Ev.W Go.Proofs
structure J2 where
  a : List IL
  b : List IL
structure J3 where
  a : List IL
  b : List IL
  c : List IL
@[reducible] noncomputable def eJJ (x : J2) : AVal := .agg [eJL x.a, eJL x.b]
noncomputable def cJJ : Cod J2 := exactCod eJJ
end Go.Ev.W.X
namespace Go.Ev.W.X
open Go Go.Ev Go.Ev.W Go.ChangeShapes Go.RowKit
section
variable {D : Type} {enc : TypeId × Value → D} {P : Program} {w : World} {base : Nat} {spare : Nat → Bool} {held : Bool}
theorem jagM {F : Fz} {n : Nat} {m : Nat → Nat} {g : Nat → Nat → Int} {v : Value} (h : MRel F w (.tree 1 n fun j => [.tree 1 (m j) fun q => [.v (.int .i64 (g j q))]]) v) : ∃ l : List IL, MRel F w (eJL l) v := by
  refine ⟨(List.range n).map fun j => ⟨m j, g j⟩, ?_⟩
  have e : ((List.range n).map fun j => (⟨m j, g j⟩ : IL)).length = n := by simp
  show MRel F w (.tree 1 _ _) v
  rw [e]
  refine h.get fun k hk => ?_
  simp [gJ, List.getD_eq_getElem?_getD, List.getElem?_range hk]
/-- an argument: an array of slices of slices of numbers -/
theorem arg_jags {ρ : Rho} {H : List ABlk} {t a e u : TypeId} {n d : Nat} {v : Value} {dd : DataW D} {pp : List MemPlace} {bs : Nat} {r : Reach} (ha : P.underlying t = some (.array n a)) (ht : P.underlying a = some (.slice e)) (he : P.underlying e = some (.slice u)) (hf : flatE P d u = some (isInts .i64 1)) (hes : P.cellsOf u = 1) (hce : P.cellsOf e = 1) (hca : P.cellsOf a = 1) (hct : P.cellsOf t = n)
    (hok : Value.okWide P w r bs t v) (h : DataW.Trod enc P w 0 spare held t v dd pp) : ∃ L : Nat → List IL, VRel ρ H (Fall w) w (.agg ((List.range n).map fun j => eJL (L j))) v := by
  obtain ⟨fuel, hx⟩ := h
  unfold Value.okWide at hok
  rw [ha] at hok
  obtain ⟨cs, rfl, hsz, _⟩ := hok
  obtain ⟨_, f', xs, h1, _, h3⟩ := rd_array ha hx
  have hel : ∀ j, ∃ l : List IL, j < n → ∃ v, cs[j]? = some v ∧ MRel (Fall w) w (eJL l) v := fun j => by
    by_cases hj : j < n
    · have hj' : j < xs.length := by omega
      have h4 := h3 j _ (List.getElem?_eq_getElem hj')
      rw [hca] at h4
      obtain ⟨v, m, q, g, h5, h6⟩ := rd_jag ht he hf hes hce h4
      obtain ⟨l, hl⟩ := jagM h6
      refine ⟨l, fun _ => ⟨v, ?_, hl⟩⟩
      have hc : j < cs.size := by omega
      have e1 : (((Value.agg cs).cells.toList.drop (j * 1)).take 1)[0]? = some v := by rw [h5]; rfl
      have e2 : (Value.agg cs).cells = cs := rfl
      rw [e2, Nat.mul_one] at e1
      rw [Array.getElem?_eq_getElem hc]
      rw [List.getElem?_take] at e1
      simp only [Nat.zero_lt_one, if_true, List.getElem?_drop, Nat.add_zero] at e1
      rw [← e1]
      simp [hc]
    · exact ⟨[], fun h => absurd h hj⟩
  obtain ⟨L, hL⟩ := Classical.axiomOfChoice hel
  refine ⟨L, .agg _ _ (by simp; omega) fun c x x' hc hc' => ?_⟩
  have hcn : c < n := by have := (List.getElem?_eq_some_iff.1 hc).1; simpa using this
  obtain ⟨v, hv, hr⟩ := hL c hcn
  rw [hv] at hc'
  cases hc'
  have : x = eJL (L c) := by
    rw [List.getElem?_map, List.getElem?_range hcn] at hc
    exact (Option.some.inj hc).symm
  rw [this]
  exact .mem hr
end
end Go.Ev.W.X

