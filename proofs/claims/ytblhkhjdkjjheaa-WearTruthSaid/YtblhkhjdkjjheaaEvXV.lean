/- WearTruth, as a plain fact (own work). -/
import Derived.Test.YtblhkhjdkjjheaaEvXQ
import Derived.Test.YtblhkhjdkjjheaaEvXS
set_option linter.unusedVariables false
set_option linter.unusedSimpArgs false
set_option linter.unnecessarySimpa false
set_option linter.unusedSectionVars false
namespace Go.Ev.W.X
open Go Go.Ev Go.Ev.W Go.Proofs
set_option maxRecDepth 100000
/-! ### sums over ledgers -/
theorem tsum_mono (t : Int) (f g : Ent → Int) : ∀ (l : List Ent), (∀ e ∈ l, f e ≤ g e) → tsum t f l ≤ tsum t g l
  | [], _ => Int.le_refl 0
  | e :: l, h => by
    have h1 := h e (.head _)
    have h2 := tsum_mono t f g l fun x hx => h x (.tail _ hx)
    show sel (e.t == t) (f e) 0 + tsum t f l ≤ sel (e.t == t) (g e) 0 + tsum t g l
    cases e.t == t with
    | true => show f e + _ ≤ g e + _; omega
    | false => show 0 + _ ≤ 0 + _; omega
/-! ### ledgers around the truth -/
noncomputable def tr (N : IL) (e : Ent) : Int := p25 N e.t e.o
structure Tru (N : IL) (l : List Ent) : Prop where
  srt : X.srt l = true
  num : ∀ e ∈ l, ((0 ≤ e.t ∧ e.t ≤ 2) ∧ (0 ≤ e.o ∧ e.o ≤ 3)) ∧ 0 ≤ e.l ∧ e.l ≤ tr N e ∧ tr N e ≤ e.h ∧ e.h ≤ 30
theorem tr_key {N : IL} {x y : Ent} (h : key x y = true) : tr N x = tr N y := by
  rw [key_iff] at h
  unfold tr
  rw [h.1, h.2]
theorem srtF_map {f : Ent → Ent} (hf : ∀ e, (f e).t = e.t ∧ (f e).o = e.o) : ∀ (l : List Ent) (a : Ent), srtF (f a) (l.map f) = srtF a l
  | [], a => rfl
  | c :: l, a => by
    show (p33 (f a) (f c) && srtF (f c) (l.map f)) = (p33 a c && srtF c l)
    have e : p33 (f a) (f c) = p33 a c := by rw [Bool.eq_iff_iff, lt_iff, lt_iff, (hf a).1, (hf a).2, (hf c).1, (hf c).2]
    rw [srtF_map hf l c, e]
theorem srt_map {f : Ent → Ent} (hf : ∀ e, (f e).t = e.t ∧ (f e).o = e.o) : ∀ (l : List Ent), srt (l.map f) = srt l
  | [] => rfl
  | a :: l => srtF_map hf l a
theorem tru_around {l : List Ent} (N : IL) (h : Made l) : Tru N (p24 l N) := by
  refine ⟨by unfold p24; rw [srt_map (f := widen N) (fun e => ⟨rfl, rfl⟩)]; exact h.srt, fun e he => ?_⟩
  unfold p24 at he
  obtain ⟨u, hu, rfl⟩ := List.mem_map.1 he
  have hn := h.num u hu
  have hr := p25_range N u.t u.o
  unfold tr widen
  simp only
  refine ⟨⟨hn.1, hn.2.1⟩, ?_, ?_, ?_, ?_⟩
  · split <;> omega
  · split <;> omega
  · split <;> omega
  · split <;> omega
theorem g24_made {l : List Ent} (N : IL) (h : Made l) : g24 l N = true := by
  unfold g24
  rw [Bool.and_eq_true]
  refine ⟨decide_eq_true (by have := h.len; omega), List.all_eq_true.2 fun e he => ?_⟩
  have := h.num e he
  unfold inr
  simp only [Bool.and_eq_true, decide_eq_true_eq]
  omega
theorem len_p24 (l : List Ent) (N : IL) : (p24 l N).length = l.length := by unfold p24; simp
theorem Tru.mrg {a b : List Ent} {N : IL} (ha : Tru N a) (hb : Tru N b) : Tru N (mrg a b) := by
  refine ⟨mrg_srt ha.srt hb.srt, all_mrg ha.num hb.num fun x y hx hy hk => ?_⟩
  have ht := tr_key (N := N) hk
  have ht2 : tr N (comb x y) = tr N x := rfl
  rw [ht2]
  unfold comb
  simp only
  refine ⟨hx.1, ?_, ?_, ?_, ?_⟩
  · split <;> omega
  · split <;> omega
  · split <;> omega
  · split <;> omega
theorem Tru.bare {l : List Ent} {N : IL} (h : Tru N l) : bare l = false := by
  rw [← Bool.not_eq_true]
  intro hb
  obtain ⟨e, he, h1⟩ := List.any_eq_true.1 hb
  have := of_decide_eq_true h1
  have := (h.num e he).2
  omega
theorem Tru.led {l : List Ent} {N : IL} (h : Tru N l) : Led l.length l := ⟨h.srt, Nat.le_refl _, fun e he => by have := h.num e he; omega⟩
theorem Tru.chk0 {l : List Ent} {N : IL} (h : Tru N l) (hn : l.length ≤ 100) : chk l = 0 := h.led.chk0 hn h.bare
theorem Tru.merge {a b : List Ent} {N : IL} (ha : Tru N a) (hb : Tru N b) (hn : a.length + b.length ≤ 100) : pM a b = (X.mrg a b, 0) := by
  have h := merge_ok ha.led hb.led (ha.chk0 (by omega)) (hb.chk0 (by omega)) hn
  rw [(ha.mrg hb).bare] at h
  exact h
/-! ### who stands behind an entry -/
/-- there is an entry with this key, none wider -/
def Kept (m : List Ent) (e : Ent) : Prop := ∃ x, x ∈ m ∧ key x e = true ∧ e.l ≤ x.l ∧ x.h ≤ e.h
theorem Kept.cons {m : List Ent} {e y : Ent} (h : Kept m e) : Kept (y :: m) e := by
  obtain ⟨x, h1, h2⟩ := h
  exact ⟨x, .tail _ h1, h2⟩
theorem kept_mrg : ∀ (a b : List Ent), (∀ e ∈ a, Kept (mrg a b) e) ∧ ∀ e ∈ b, Kept (mrg a b) e
  | [], b => by rw [mrg_nil_l]; exact ⟨fun e h => by simp at h, fun e h => ⟨e, h, (key_iff _ _).2 ⟨rfl, rfl⟩, Int.le_refl _, Int.le_refl _⟩⟩
  | x :: a, [] => by rw [mrg_nil_r]; exact ⟨fun e h => ⟨e, h, (key_iff _ _).2 ⟨rfl, rfl⟩, Int.le_refl _, Int.le_refl _⟩, fun e h => by simp at h⟩
  | x :: a, y :: b => by
    rcases tri x y with ⟨h1, h2, h3⟩ | ⟨h1, h2, h3⟩ | ⟨h1, h2, h3⟩
    · rw [cons_lt h1]
      obtain ⟨k1, k2⟩ := kept_mrg a (y :: b)
      refine ⟨fun e he => ?_, fun e he => (k2 e he).cons⟩
      rcases List.mem_cons.1 he with rfl | he
      · exact ⟨e, .head _, (key_iff _ _).2 ⟨rfl, rfl⟩, Int.le_refl _, Int.le_refl _⟩
      · exact (k1 e he).cons
    · rw [cons_gt h2]
      obtain ⟨k1, k2⟩ := kept_mrg (x :: a) b
      refine ⟨fun e he => (k1 e he).cons, fun e he => ?_⟩
      rcases List.mem_cons.1 he with rfl | he
      · exact ⟨e, .head _, (key_iff _ _).2 ⟨rfl, rfl⟩, Int.le_refl _, Int.le_refl _⟩
      · exact (k2 e he).cons
    · rw [cons_eq h3]
      obtain ⟨k1, k2⟩ := kept_mrg a b
      refine ⟨fun e he => ?_, fun e he => ?_⟩
      · rcases List.mem_cons.1 he with rfl | he
        · refine ⟨comb e y, .head _, (key_iff _ _).2 ⟨rfl, rfl⟩, ?_, ?_⟩
          · unfold comb; simp only; split <;> omega
          · unfold comb; simp only; split <;> omega
        · exact (k1 e he).cons
      · rcases List.mem_cons.1 he with rfl | he
        · refine ⟨comb x e, .head _, (key_iff _ _).2 ?_, ?_, ?_⟩
          · have := (key_iff _ _).1 h3
            exact this
          · unfold comb; simp only; split <;> omega
          · unfold comb; simp only; split <;> omega
        · exact (k2 e he).cons
termination_by a b => a.length + b.length
/-! ### the length of the merged -/
def news (a b : List Ent) : Nat := (b.filter fun e => !a.any fun x => key x e).length
theorem any_lt {a : List Ent} {y : Ent} (h : ∀ x ∈ a, p33 y x = true) : (a.any fun x => key x y) = false := by
  rw [← Bool.not_eq_true, List.any_eq_true]
  rintro ⟨x, hx, hk⟩
  rw [key_comm, key_ne (h x hx)] at hk; cases hk
theorem all_tail {x y : Ent} {a : List Ent} (h : srt (x :: a) = true) (hl : p33 y x = true) : ∀ z ∈ x :: a, p33 y z = true := fun z hz => by
  rcases List.mem_cons.1 hz with rfl | hz
  · exact hl
  · exact lt_trans hl (srtF_all h z hz)
theorem news_skip {a b : List Ent} {x : Ent} (h : ∀ y ∈ b, p33 x y = true) : news (x :: a) b = news a b := by
  unfold news
  rw [List.filter_congr fun e he => ?_]
  rw [List.any_cons, key_ne (h e he), Bool.false_or]
theorem mrg_length : ∀ (a b : List Ent), srt a = true → srt b = true → (mrg a b).length = a.length + news a b
  | [], b, _, _ => by
    rw [mrg_nil_l]
    unfold news
    have e : (b.filter fun e => !([] : List Ent).any fun x => key x e) = b := List.filter_eq_self.2 fun e _ => rfl
    rw [e]
    simp
  | x :: a, [], _, _ => by rw [mrg_nil_r]; rfl
  | x :: a, y :: b, ha, hb => by
    rcases tri x y with ⟨h1, h2, h3⟩ | ⟨h1, h2, h3⟩ | ⟨h1, h2, h3⟩
    · rw [cons_lt h1, news_skip (all_tail hb h1), List.length_cons, mrg_length a (y :: b) (srt_tail ha) hb, List.length_cons]; omega
    · rw [cons_gt h2, List.length_cons, mrg_length (x :: a) b ha (srt_tail hb)]
      have e : ((x :: a).any fun z => key z y) = false := any_lt (all_tail ha h2)
      have e2 : news (x :: a) (y :: b) = news (x :: a) b + 1 := by
        unfold news
        rw [List.filter_cons, e]
        rfl
      rw [e2]; omega
    · rw [cons_eq h3, List.length_cons, mrg_length a b (srt_tail ha) (srt_tail hb)]
      have e2 : news (x :: a) (y :: b) = news a b := by
        have h4 : ((x :: a).any fun z => key z y) = true := by rw [List.any_cons, h3]; rfl
        have h5 : news (x :: a) b = news a b := news_skip fun z hz => by
          have := srtF_all hb z hz
          rw [key_lt2 h3]; exact this
        rw [← h5]
        unfold news
        rw [List.filter_cons, h4]
        rfl
      rw [e2, List.length_cons]; omega
termination_by a b => a.length + b.length
theorem news_cons (a : List Ent) (e : Ent) (b : List Ent) : news a (e :: b) = sel (a.any fun x => key x e) 0 1 + news a b := by
  unfold news
  rw [List.filter_cons]
  cases a.any fun x => key x e with
  | true => show _ = 0 + _; rw [Nat.zero_add]; rfl
  | false => show _ = 1 + _; rw [Nat.add_comm]; rfl
theorem news_le (a b : List Ent) : news a b ≤ b.length := List.length_filter_le _ _
/-! ### the loops -/
theorem e_eta' (e : Ent) : (⟨e.t, e.o, e.l, e.h⟩ : Ent) = e := rfl
theorem lp_all {σ : Type} {step : σ → Stp σ} {enc : Nat → σ} {n t : Nat} (h1 : ∀ j, j < n → step (enc j) = .next (enc (j + 1))) (h2 : step (enc n) = .exit t) (hn : n ≤ 4611686018427387904) : lp step (enc 0) = (t, enc n) := by
  have h := lp_inv2 (step := step) (I := fun m s => ∃ j, m = n - j ∧ j ≤ n ∧ s = enc j) (Q := fun t' s => t' = t ∧ s = enc n) (fun m s hi => by
    obtain ⟨j, rfl, h3, rfl⟩ := hi
    by_cases hj : j < n
    · exact .inr ⟨_, n - (j + 1), by omega, h1 j hj, j + 1, rfl, by omega, rfl⟩
    · have hj : j = n := by omega
      subst hj
      exact .inl ⟨t, h2, rfl, rfl⟩) n (enc 0) hn ⟨0, by omega, by omega, rfl⟩
  exact Prod.ext h.1 h.2
theorem loop5_0 {m : List Ent} {N : IL} (h : Tru N m) (hb : m.length ≤ 1000) (n6 n7 : Nat) (g6 g7 : Nat → List AVal) :
    (lp (st5_0 ⟨N.n, fun k => [i (N.g k)], n6, g6, n7, g7, m.length, fun k => rE (gE m k), m.length, fun k => rE (gE m k), (m.length : Int)⟩) ⟨0⟩).1 = 7 := by
  have hN : (⟨N.n, fun k => toI (hdA [i (N.g k)])⟩ : IL) = N := rfl
  have hok := okInts_can N.n N.g
  have l0 := lp_all (step := st5_0 ⟨N.n, fun k => [i (N.g k)], n6, g6, n7, g7, m.length, fun k => rE (gE m k), m.length, fun k => rE (gE m k), (m.length : Int)⟩) (enc := fun j => ⟨(j : Int)⟩) (n := m.length) (t := 7)
    (fun j hj => by
      have hn := h.num _ (gE_mem hj)
      have hg := g25_ok N (t := (gE m j).t) (o := (gE m j).o) (by omega) (by omega)
      have q1 : decide ((gE m j).t < 0) = false := decide_eq_false (by omega)
      have q2 : decide ((gE m j).t > 2) = false := decide_eq_false (by omega)
      have q3 : decide ((gE m j).o < 0) = false := decide_eq_false (by omega)
      have q4 : decide ((gE m j).o > 3) = false := decide_eq_false (by omega)
      have q5 : decide (p25 N (gE m j).t (gE m j).o < (gE m j).l) = false := decide_eq_false (by have := hn.2; unfold tr at this; omega)
      have q6 : decide (p25 N (gE m j).t (gE m j).o > (gE m j).h) = false := decide_eq_false (by have := hn.2; unfold tr at this; omega)
      simp only [st5_0, su5_0_0, dec_lt hj, inB_nat hj, Int.toNat_natCast, f_t, f_o, f_l, f_h, hN, hok, hg, q5, q6, W_next hj (show m.length ≤ 4611686018427387904 by omega)]
      exact sel_l rfl (sel_l rfl (sel_l rfl (sel_l rfl (sel_l rfl (sel_r q1 (sel_r q2 (sel_r q3 (sel_r q4 rfl)))))))))
    (by simp only [st5_0, su5_0_0, dec_nlt (Nat.le_refl _)]) (by omega)
  have l0 : lp (st5_0 ⟨N.n, fun k => [i (N.g k)], n6, g6, n7, g7, m.length, fun k => rE (gE m k), m.length, fun k => rE (gE m k), (m.length : Int)⟩) ⟨0⟩ = _ := l0
  rw [l0]
noncomputable def addNew (a : List Ent) (c : Int) (e : Ent) : Int := sel (a.any fun x => key x e) c (W (c + 1))
theorem fold_new (a : List Ent) : ∀ (b : List Ent) (c : Int), 0 ≤ c → c + b.length ≤ 1000000 → b.foldl (addNew a) c = c + news a b
  | [], c, _, _ => by show c = c + 0; omega
  | e :: b, c, h0, h1 => by
    have h1 : c + ((b.length + 1 : Nat) : Int) ≤ 1000000 := h1
    show b.foldl (addNew a) (addNew a c e) = _
    rw [news_cons]
    unfold addNew
    cases a.any fun x => key x e with
    | true =>
      show b.foldl (addNew a) c = c + ((0 + news a b : Nat) : Int)
      rw [fold_new a b c h0 (by omega)]
      omega
    | false =>
      show b.foldl (addNew a) (W (c + 1)) = c + ((1 + news a b : Nat) : Int)
      rw [W_id (by omega) (by omega), fold_new a b (c + 1) (by omega) (by omega)]
      omega
theorem loop5_1 {a b : List Ent} (ha : a.length ≤ 1000) (hb : b.length ≤ 1000) (n1 n8 : Nat) (g1 g8 : Nat → List AVal) :
    lp (st5_1 ⟨n1, g1, a.length, fun k => rE (gE a k), b.length, fun k => rE (gE b k), n8, g8, b.length, fun k => rE (gE b k), (b.length : Int)⟩) ⟨(a.length : Int), 0⟩ = (1, ⟨(a.length : Int) + news a b, b.length⟩) := by
  have h := lp_fold (step := st5_1 ⟨n1, g1, a.length, fun k => rE (gE a k), b.length, fun k => rE (gE b k), n8, g8, b.length, fun k => rE (gE b k), (b.length : Int)⟩) (enc := fun j (c : Int) => ⟨c, (j : Int)⟩) (t := 1) b (addNew a)
    (fun j acc hj => by
      obtain ⟨h1, h2⟩ := at26 a (gE b j) (by omega)
      simp only [st5_1, su5_1_0, dec_lt hj, inB_nat hj, W_next hj (show b.length ≤ 4611686018427387904 by omega), Int.toNat_natCast, e_eta', ls_id, ok_id, f_t, f_o, f_l, f_h, h1, h2]
      unfold addNew
      cases a.any fun x => key x (gE b j) with
      | true =>
        have : decide ((((a.takeWhile fun e => !key e (gE b j)).length : Nat) : Int) < 0) = false := decide_eq_false (by omega)
        show sel true (sel true (sel true (sel true (sel true (sel (decide ((((a.takeWhile fun e => !key e (gE b j)).length : Nat) : Int) < 0)) _ _) _) _) _) _) _ = _
        rw [this]
      | false => rfl)
    (fun acc => by simp only [st5_1, su5_1_0, dec_nlt (Nat.le_refl _)]) (a.length : Int) (by omega)
  have h : lp (st5_1 ⟨n1, g1, a.length, fun k => rE (gE a k), b.length, fun k => rE (gE b k), n8, g8, b.length, fun k => rE (gE b k), (b.length : Int)⟩) ⟨(a.length : Int), 0⟩ = _ := h
  rw [h, fold_new a b _ (by omega) (by omega)]
theorem tw_key {α : Type} {p : α → Bool} {d : α} : ∀ (l : List α), l.any p = true → (l.takeWhile fun x => !p x).length < l.length ∧ p (l.getD (l.takeWhile fun x => !p x).length d) = true
  | [], h => by cases h
  | x :: l, h => by
    cases hp : p x with
    | true =>
      have e : ((x :: l).takeWhile fun x => !p x) = [] := by simp [hp]
      rw [e]
      exact ⟨by simp, hp⟩
    | false =>
      have e : ((x :: l).takeWhile fun x => !p x) = x :: l.takeWhile fun x => !p x := by simp [hp]
      have h2 : l.any p = true := by
        rw [List.any_cons, hp] at h
        exact h
      obtain ⟨h3, h4⟩ := tw_key (d := d) l h2
      rw [e]
      exact ⟨by simp only [List.length_cons]; omega, h4⟩
/-- the first entry with a key -/
theorem first_key {m : List Ent} {e : Ent} (h : srt m = true) (hk : Kept m e) : (m.any fun x => key x e) = true ∧ (m.takeWhile fun x => !key x e).length < m.length ∧ e.l ≤ (gE m (m.takeWhile fun x => !key x e).length).l ∧ (gE m (m.takeWhile fun x => !key x e).length).h ≤ e.h := by
  obtain ⟨x, h1, h2, h3, h4⟩ := hk
  have ha : (m.any fun x => key x e) = true := List.any_eq_true.2 ⟨x, h1, h2⟩
  obtain ⟨hlt, hkk⟩ := tw_key (p := fun x => key x e) (d := ⟨0, 0, 0, 0⟩) m ha
  refine ⟨ha, hlt, ?_⟩
  obtain ⟨k, hk1, rfl⟩ := mem_gE h1
  have : k = (m.takeWhile fun x => !key x e).length := srt_key h hk1 hlt (by rw [key_key hkk]; exact h2)
  rw [← this]
  exact ⟨h3, h4⟩
end Go.Ev.W.X

