/- WearTruth, the law (own work). -/
import Derived.Test.YtblhkhjdkjjheaaEvXV
set_option linter.unusedVariables false
set_option linter.unusedSimpArgs false
set_option linter.unnecessarySimpa false
set_option linter.unusedSectionVars false
namespace Go.Ev.W.X
open Go Go.Ev Go.Ev.W Go.Proofs
set_option maxRecDepth 100000
theorem drop0 (r : List AVal) : dropN r 0 = r := by cases r <;> rfl
theorem loop5_2 {m c : List Ent} (hs : srt m = true) (hm : m.length ≤ 1000) (hc : c.length ≤ 1000) (hk : ∀ e ∈ c, Kept m e) (n1 : Nat) (g1 : Nat → List AVal) (z : Int) :
    (lp (st5_2 ⟨n1, g1, m.length, fun k => rE (gE m k), z, c.length, (c.length : Int), mapL rE c⟩) ⟨0⟩).1 = 4 := by
  have l0 := lp_all (step := st5_2 ⟨n1, g1, m.length, fun k => rE (gE m k), z, c.length, (c.length : Int), mapL rE c⟩) (enc := fun j => ⟨(j : Int)⟩) (n := c.length) (t := 4)
    (fun j hj => by
      obtain ⟨h1, h2⟩ := at26 m (gE c j) (by omega)
      obtain ⟨ha, hlt, k1, k2⟩ := first_key hs (hk _ (gE_mem hj))
      have q0 : getRow (mapL rE c) j = rE (gE c j) := getRow_mapL rE _ hj
      have q1 : decide ((((m.takeWhile fun e => !key e (gE c j)).length : Nat) : Int) < 0) = false := decide_eq_false (by omega)
      have q2 : decide ((gE m (m.takeWhile fun e => !key e (gE c j)).length).l < (gE c j).l) = false := decide_eq_false (by omega)
      have q3 : decide ((gE m (m.takeWhile fun e => !key e (gE c j)).length).h > (gE c j).h) = false := decide_eq_false (by omega)
      have q4 : inB (((m.takeWhile fun e => !key e (gE c j)).length : Nat) : Int) m.length = true := inB_nat hlt
      have q5 : Nat.blt j c.length = true := by rw [Nat.blt_eq]; exact hj
      have e26 : p26 m (gE c j) = (((m.takeWhile fun e => !key e (gE c j)).length : Nat) : Int) := by rw [h1, ha]
      simp only [st5_2, su5_2_0, dec_lt hj, inB_nat hj, W_next hj (show c.length ≤ 4611686018427387904 by omega), Int.toNat_natCast, Nat.zero_add, q0, drop0, f_t, f_o, f_l, f_h, e_eta', ls_id, ok_id, e26, h2, len_rows, q5, d2, d3]
      exact sel_l rfl (sel_l rfl (sel_l rfl (sel_l rfl (sel_l rfl (sel_r q1 (sel_l q4 (sel_l rfl (sel_r q2 (sel_l q4 (sel_l rfl (sel_r q3 rfl))))))))))))
    (by simp only [st5_2, su5_2_0, dec_nlt (Nat.le_refl _)]) (by omega)
  have l0 : lp (st5_2 ⟨n1, g1, m.length, fun k => rE (gE m k), z, c.length, (c.length : Int), mapL rE c⟩) ⟨0⟩ = _ := l0
  rw [l0]
theorem loop5_4 {m : List Ent} {N : IL} (h : Tru N m) (hb : m.length ≤ 1000) (z T : Int) :
    lp (st5_4 ⟨N.n, fun k => [i (N.g k)], m.length, fun k => rE (gE m k), z, T, m.length, fun k => rE (gE m k), (m.length : Int)⟩) ⟨0, 0⟩ = (1, ⟨tsum T (tr N) m, m.length⟩) := by
  have hN : (⟨N.n, fun k => toI (hdA [i (N.g k)])⟩ : IL) = N := rfl
  have hok := okInts_can N.n N.g
  have h0 := lp_fold (step := st5_4 ⟨N.n, fun k => [i (N.g k)], m.length, fun k => rE (gE m k), z, T, m.length, fun k => rE (gE m k), (m.length : Int)⟩) (enc := fun j (c : Int) => ⟨c, (j : Int)⟩) (t := 1) m (addIf T (tr N))
    (fun j acc hj => by
      have hn := h.num _ (gE_mem hj)
      have hg := g25_ok N (t := (gE m j).t) (o := (gE m j).o) (by omega) (by omega)
      simp only [st5_4, su5_4_0, dec_lt hj, inB_nat hj, W_next hj (show m.length ≤ 4611686018427387904 by omega), Int.toNat_natCast, f_t, f_o, hN, hok, hg]
      unfold addIf tr
      show sel true (sel true (sel true (sel ((gE m j).t == T) _ _) _) _) _ = _
      cases (gE m j).t == T <;> rfl)
    (fun acc => by simp only [st5_4, su5_4_0, dec_nlt (Nat.le_refl _)]) (0 : Int) (by omega)
  have h0 : lp (st5_4 ⟨N.n, fun k => [i (N.g k)], m.length, fun k => rE (gE m k), z, T, m.length, fun k => rE (gE m k), (m.length : Int)⟩) ⟨0, 0⟩ = _ := h0
  rw [h0, fold_tsum T (tr N) m 0 (fun e he => by have := h.num e he; omega) (by omega) (by omega), Int.zero_add]
theorem Tru.tot {m : List Ent} {N : IL} (h : Tru N m) (hb : m.length ≤ 100) (t : Int) : pT m t = (tsum t Ent.l m, tsum t Ent.h m, 0) := by
  unfold pT X.tot
  have e1 := fold_tsum t Ent.l m 0 (fun e he => by have := h.num e he; omega) (by omega) (by omega)
  have e2 := fold_tsum t Ent.h m 0 (fun e he => by have := h.num e he; omega) (by omega) (by omega)
  rw [e1, e2, h.chk0 hb, Int.zero_add, Int.zero_add]
  rfl
theorem loop5_3 {m : List Ent} {N : IL} (h : Tru N m) (hb : m.length ≤ 100) (z : Int) :
    (lp (st5_3 ⟨N.n, fun k => [i (N.g k)], m.length, fun k => rE (gE m k), z⟩) ⟨0⟩).1 = 4 := by
  have hgT : ∀ T, gT m T = true := fun T => decide_eq_true (by omega)
  have l0 := lp_all (step := st5_3 ⟨N.n, fun k => [i (N.g k)], m.length, fun k => rE (gE m k), z⟩) (enc := fun j => ⟨(j : Int)⟩) (n := 3) (t := 4)
    (fun j hj => by
      have hd : decide (((j : Nat) : Int) < 3) = true := decide_eq_true (by omega)
      have m1 := tsum_mono (j : Int) Ent.l (tr N) m fun e he => (h.num e he).2.2.1
      have m2 := tsum_mono (j : Int) (tr N) Ent.h m fun e he => (h.num e he).2.2.2.1
      have q1 : decide (tsum (j : Int) Ent.l m > tsum (j : Int) (tr N) m) = false := decide_eq_false (by omega)
      have q2 : decide (tsum (j : Int) Ent.h m < tsum (j : Int) (tr N) m) = false := decide_eq_false (by omega)
      simp only [st5_3, su5_3_0, hd, loop5_4 h (show m.length ≤ 1000 by omega), ls_id, ok_id, hgT, h.tot hb, W_next hj (show 3 ≤ 4611686018427387904 by omega), bne_self_eq_false]
      exact sel_l rfl (sel_l rfl (sel_l rfl (sel_l rfl (sel_r rfl (sel_r q1 (sel_r q2 rfl)))))))
    (by simp only [st5_3, su5_3_0]; rfl) (by omega)
  have l0 : lp (st5_3 ⟨N.n, fun k => [i (N.g k)], m.length, fun k => rE (gE m k), z⟩) ⟨0⟩ = _ := l0
  rw [l0]
theorem law5 (x : J2) (N : IL) : p5 x N = true ∧ g5 x N = true := by
  have ga := g10_of (isJ_of x.a)
  have gb := g10_of (isJ_of x.b)
  have ha := made10 ⟨x.a.length, fun k => rJ (gJ x.a k)⟩
  have hb := made10 ⟨x.b.length, fun k => rJ (gJ x.b k)⟩
  unfold p5 g5
  simp only [ga, gb, ls_id, ok_id]
  generalize p10 ⟨x.a.length, fun k => rJ (gJ x.a k)⟩ = A at *
  generalize p10 ⟨x.b.length, fun k => rJ (gJ x.b k)⟩ = B at *
  have tA := tru_around N ha
  have tB := tru_around N hb
  have gA := g24_made N ha
  have gB := g24_made N hb
  have lA := len_p24 A N
  have lB := len_p24 B N
  have la := ha.len
  have lb := hb.len
  simp only [gA, gB]
  generalize p24 A N = a at *
  generalize p24 B N = b at *
  have hM := tA.merge tB (by omega)
  have tM := tA.mrg tB
  have lM := mrg_length a b tA.srt tB.srt
  have nl := news_le a b
  obtain ⟨ka, kb⟩ := kept_mrg a b
  have hok := okInts_can N.n N.g
  have hgM : gM a b = true := by
    unfold gM
    rw [decide_eq_true (show a.length ≤ 1000 by omega), decide_eq_true (show b.length ≤ 1000 by omega)]; rfl
  simp only [hM, hok, hgM]
  generalize hm : mrg a b = m at *
  have l0 := loop5_0 tM (by omega) a.length b.length (fun k => rE (gE a k)) (fun k => rE (gE b k))
  have l1 := loop5_1 (a := a) (b := b) (by omega) (by omega) N.n m.length (fun k => [i (N.g k)]) (fun k => rE (gE m k))
  have l3 := loop5_3 tM (by omega) ((a.length : Int) + news a b)
  have hC : pC m = 0 := tM.chk0 (by omega)
  have hgC : gC m = true := decide_eq_true (by omega)
  have hlen : ((m.length : Int) == (a.length : Int) + news a b) = true := beq_iff_eq.2 (by omega)
  have lw : ∀ c : List Ent, c.length ≤ 1000 → (∀ e ∈ c, Kept m e) → (lp (st5_2 ⟨N.n, fun k => [i (N.g k)], m.length, fun k => rE (gE m k), (a.length : Int) + news a b, c.length, (c.length : Int), mapL rE c⟩) ⟨0⟩).1 = 4 :=
    fun c hc hk => loop5_2 tM.srt (by omega) hc hk _ _ _
  have w0 := lw [] (by simp) fun e he => by simp at he
  have w1 := lw b (by omega) kb
  have w2 := lw a (by omega) ka
  have w3 := lw (a ++ b) (by simp; omega) fun e he => (List.mem_append.1 he).elim (ka e) (kb e)
  have w0 : (lp (st5_2 ⟨N.n, fun k => [i (N.g k)], m.length, fun k => rE (gE m k), (a.length : Int) + news a b, 0, 0, []⟩) ⟨0⟩).1 = 4 := w0
  rw [List.length_append] at w3
  simp only [l0, l1, l3, hC, hgC, bne_self_eq_false, rows_all, len_rows, Nat.zero_add, app_nil', rows_app, w0, w1, w2, w3, hlen, room_le (show a.length ≤ 1099511627776 by omega), room_le (show b.length ≤ 1099511627776 by omega), room_le (show a.length + b.length ≤ 1099511627776 by omega), Nat.beq_refl]
  cases Nat.beq a.length 0 with
  | true =>
    cases Nat.beq b.length 0 with
    | true => exact ⟨rfl, rfl⟩
    | false => exact ⟨rfl, rfl⟩
  | false =>
    cases Nat.beq b.length 0 with
    | true => exact ⟨rfl, rfl⟩
    | false => exact ⟨rfl, rfl⟩
theorem law5S (x : J2) (y : IL) : (S5 [eJJ x, eIL y] []).run = some (b true, []) := by
  obtain ⟨x', h1, _⟩ := exactCod_dec eJJ x
  have h1 : cJJ.dec (eJJ x) = some x' := h1
  obtain ⟨h2, h3⟩ := law5 x' y
  have h4 : cL.dec (eIL y) = some y := rfl
  have h5 : cL.grd (eIL y) = true := okInts_can y.n y.g
  unfold S5 sum2
  simp only [h1, h4, h5]
  show (DT.guard true (DT.guard true (DT.guard (g5 x' y) (.ret (b (p5 x' y), []))))).run = _
  rw [h2, h3]
  rfl
end Go.Ev.W.X

