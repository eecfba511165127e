/- WearAdds, the law (own work). -/
import Derived.Test.YtblhkhjdkjjheaaEvXS
set_option linter.unusedVariables false
set_option linter.unusedSimpArgs false
set_option linter.unnecessarySimpa false
set_option linter.unusedSectionVars false
namespace Go.Ev.W.X
open Go Go.Ev Go.Ev.W Go.Proofs
set_option maxRecDepth 100000
theorem ls0 : lsE 0 (fun k => getRow [] (0 + k)) = [] := rfl
theorem e_t (e : Ent) : toI (hdA (rE e)) = e.t := rfl
theorem e_o (e : Ent) : toI (hdA (tlA (rE e))) = e.o := rfl
theorem e_l (e : Ent) : toI (hdA (tlA (tlA (rE e)))) = e.l := rfl
theorem e_h (e : Ent) : toI (hdA (tlA (tlA (tlA (rE e))))) = e.h := rfl
theorem e_eta (e : Ent) : (⟨e.t, e.o, e.l, e.h⟩ : Ent) = e := rfl
theorem same_ok {l : List Ent} (h : l.length ≤ 1000000) : p16 l l = true ∧ g16 l l = true := by
  obtain ⟨h1, h2⟩ := same16 l l (by omega)
  exact ⟨by rw [h1]; exact decide_eq_true rfl, h2⟩
theorem idx7 {n t k : Nat} (ht : t ≤ 255) (hk : k < n) (hn : n ≤ 1000) : Int.tmod (W ((k : Int) + W (t : Int))) (n : Int) = ((rot n t k : Nat) : Int) := by
  rw [W_id (n := (t : Int)) (by omega) (by omega), W_id (by omega) (by omega)]
  rfl
def Rep7 (s : Sg7_0) (own : List Ent) : Prop := (s.ph = 0 ∧ own = []) ∨ (s.ph = 1 ∧ own ≠ [] ∧ s.ns11 = own.length ∧ s.gs11 = fun k => rE (gE own k))
theorem step7 {l own : List Ent} {t : Nat} {z T : Int} (hl : Made l) (ht : t ≤ 255) {s : Sg7_0} {k : Nat} (hk : k < l.length) (hs : s.is36 = (k : Int)) (ho : Own l t k own) (hr : Rep7 s own) (h1 : s.is12 = tsum T Ent.l own) (h2 : s.is13 = tsum T Ent.h own) :
    ∃ s', st7_0 ⟨(t : Int), z, l.length, fun k => rE (gE l k), T, (l.length : Int)⟩ s = .next s' ∧ s'.is36 = ((k + 1 : Nat) : Int) ∧ Rep7 s' (ins own (gE l (rot l.length t k))) ∧
      s'.is12 = tsum T Ent.l (ins own (gE l (rot l.length t k))) ∧ s'.is13 = tsum T Ent.h (ins own (gE l (rot l.length t k))) := by
  obtain ⟨ph, lo, hi, kk, ns, gs⟩ := s
  simp only at hs h1 h2
  subst hs h1 h2
  have hlen := hl.len
  have hi := idx7 ht hk (show l.length ≤ 1000 by omega)
  have hrl : rot l.length t k < l.length := Nat.mod_lt _ (by omega)
  have hu := gE_mem hrl
  have hn := hl.num _ hu
  obtain ⟨ha, ho'⟩ := ho.next hl hk
  have hne : ((l.length : Int) == 0) = false := beq_eq_false_iff_ne.2 (by omega)
  have hm : ∀ e ∈ own, (0 ≤ e.l ∧ e.l ≤ 30) ∧ 0 ≤ e.h ∧ e.h ≤ 30 := fun e he => by
    obtain ⟨j, hj, rfl⟩ := (ho.mem e).1 he
    have := hl.num _ (gE_mem (show rot l.length t j < l.length from Nat.mod_lt _ (by omega)))
    omega
  have r1 := tsum_range T Ent.l own fun e he => (hm e he).1
  have r2 := tsum_range T Ent.h own fun e he => (hm e he).2
  have holen := ho.len
  have t1 := tsum_ins T Ent.l own (gE l (rot l.length t k))
  have t2 := tsum_ins T Ent.h own (gE l (rot l.length t k))
  have hinz : ins own (gE l (rot l.length t k)) ≠ [] := fun h => by
    have := ho'.len
    rw [h] at this; simp at this
  have hga : gA own (gE l (rot l.length t k)) = true := decide_eq_true (by omega)
  have hso := same_ok (l := own) (by omega)
  have w1 : W ((k : Int) + 1) = ((k + 1 : Nat) : Int) := W_next hk (by omega)
  refine ⟨⟨1, tsum T Ent.l (ins own (gE l (rot l.length t k))), tsum T Ent.h (ins own (gE l (rot l.length t k))), ((k + 1 : Nat) : Int), (ins own (gE l (rot l.length t k))).length, fun j => rE (gE (ins own (gE l (rot l.length t k))) j)⟩, ?_, rfl, .inr ⟨rfl, hinz, rfl, rfl⟩, rfl, rfl⟩
  rw [t1, t2]
  have wl : W (tsum T Ent.l own + (gE l (rot l.length t k)).l) = tsum T Ent.l own + (gE l (rot l.length t k)).l := W_id (by omega) (by omega)
  have wh : W (tsum T Ent.h own + (gE l (rot l.length t k)).h) = tsum T Ent.h own + (gE l (rot l.length t k)).h := W_id (by omega) (by omega)
  rcases hr with ⟨hp, hz⟩ | ⟨hp, hz, hns, hgs⟩
  · simp only at hp
    subst hp hz
    simp only [st7_0, su7_0_0, dec_lt hk, hne, hi, inB_nat hrl, Int.toNat_natCast, e_t, e_o, e_l, e_h, e_eta, hga, pA, ha, ls0, hso, wl, wh, w1]
    cases (gE l (rot l.length t k)).t == T with
    | true => rfl
    | false =>
      show _ = Stp.next (⟨1, tsum T Ent.l [] + 0, tsum T Ent.h [] + 0, _, _, _⟩ : Sg7_0)
      rfl
  · simp only at hp hns hgs
    subst hp hns hgs
    have hb0 : Nat.beq own.length 0 = false := by
      cases h : Nat.beq own.length 0 with
      | false => rfl
      | true => exact absurd (List.length_eq_zero_iff.1 (Nat.eq_of_beq_eq_true h)) hz
    simp only [st7_0, su7_0_1, dec_lt hk, hne, hi, inB_nat hrl, Int.toNat_natCast, e_t, e_o, e_l, e_h, e_eta, rows_all, len_rows, hb0, Nat.zero_add, room_le (show own.length ≤ 1099511627776 by omega), ok_id, ls_id, hga, pA, ha, app_nil', ok_blk', rows_blk', hso, wl, wh, w1]
    cases (gE l (rot l.length t k)).t == T with
    | true => rfl
    | false =>
      show _ = Stp.next (⟨1, tsum T Ent.l own + 0, tsum T Ent.h own + 0, _, _, _⟩ : Sg7_0)
      rw [Int.add_zero, Int.add_zero]
      rfl
theorem loop7 {l : List Ent} {t : Nat} {z T : Int} (hl : Made l) (ht : t ≤ 255) :
    let r := lp (st7_0 ⟨(t : Int), z, l.length, fun k => rE (gE l k), T, (l.length : Int)⟩) ⟨0, 0, 0, 0, 0, fun _ => []⟩
    ((r.1 = 3 ∧ l = []) ∨ (r.1 = 8 ∧ l ≠ [] ∧ r.2.ns11 = l.length ∧ r.2.gs11 = fun k => rE (gE l k))) ∧ r.2.is12 = tsum T Ent.l l ∧ r.2.is13 = tsum T Ent.h l := by
  have hlen := hl.len
  refine lp_inv2 (step := st7_0 ⟨(t : Int), z, l.length, fun k => rE (gE l k), T, (l.length : Int)⟩)
    (I := fun m (s : Sg7_0) => ∃ (k : Nat) (own : List Ent), m = l.length - k ∧ k ≤ l.length ∧ s.is36 = (k : Int) ∧ Own l t k own ∧ Rep7 s own ∧ s.is12 = tsum T Ent.l own ∧ s.is13 = tsum T Ent.h own)
    (Q := fun q (s : Sg7_0) => ((q = 3 ∧ l = []) ∨ (q = 8 ∧ l ≠ [] ∧ s.ns11 = l.length ∧ s.gs11 = fun k => rE (gE l k))) ∧ s.is12 = tsum T Ent.l l ∧ s.is13 = tsum T Ent.h l) (fun m s hi => ?_) l.length _ (by omega)
    ⟨0, [], by omega, by omega, rfl, ⟨rfl, rfl, fun e => ⟨fun h => by simp at h, fun ⟨j, hj, _⟩ => by omega⟩⟩, .inl ⟨rfl, rfl⟩, rfl, rfl⟩
  obtain ⟨k, own, rfl, hk, hs, ho, hr, h1, h2⟩ := hi
  by_cases hlt : k < l.length
  · obtain ⟨s', e1, e2, e3, e4, e5⟩ := step7 (z := z) (T := T) hl ht hlt hs ho hr h1 h2
    exact .inr ⟨s', l.length - (k + 1), by omega, e1, k + 1, _, rfl, by omega, e2, (ho.next hl hlt).2, e3, e4, e5⟩
  · have hkn : k = l.length := by omega
    subst hkn
    have he := ho.all hl
    subst he
    obtain ⟨ph, lo, hi, kk, ns, gs⟩ := s
    simp only at hs
    subst hs
    rcases hr with ⟨hp, hz⟩ | ⟨hp, hz, hns, hgs⟩
    · simp only at hp
      subst hp
      refine .inl ⟨3, ?_, .inl ⟨rfl, hz⟩, h1, h2⟩
      simp only [st7_0, su7_0_0, dec_nlt (Nat.le_refl _)]
      rfl
    · simp only at hp
      subst hp
      refine .inl ⟨8, ?_, .inr ⟨rfl, hz, hns, hgs⟩, h1, h2⟩
      simp only [st7_0, su7_0_1, dec_nlt (Nat.le_refl _)]
      rfl
theorem tot_made {l : List Ent} (hl : Made l) (t : Int) : pT l t = (tsum t Ent.l l, tsum t Ent.h l, 0) := by
  have hlen := hl.len
  unfold pT tot
  have e1 := fold_tsum t Ent.l l 0 (fun e he => by have := hl.num e he; omega) (by omega) (by omega)
  have e2 := fold_tsum t Ent.h l 0 (fun e he => by have := hl.num e he; omega) (by omega) (by omega)
  rw [e1, e2, hl.chk0, Int.zero_add, Int.zero_add]
  rfl
theorem add_same {l : List Ent} (hl : Made l) {k : Nat} (hk : k < l.length) : add l (gE l k) = (l, 0) := by
  have hx := ix_at hl.srt hk (u := gE l k) ((key_iff _ _).2 ⟨rfl, rfl⟩)
  have c3 : hasK l (ix l (gE l k)) (gE l k) = true := by
    unfold hasK
    rw [hx, decide_eq_true hk, (key_iff _ _).2 ⟨rfl, rfl⟩]; rfl
  unfold add
  exact sel_r (by rw [hl.chk0]; rfl) (sel_r (num_ok (hl.num _ (gE_mem hk))) (sel_l c3 (sel_l (by rw [hx]; exact decide_eq_true rfl) rfl)))
theorem add_twice {l : List Ent} (hl : Made l) {k : Nat} (hk : k < l.length) : add l ⟨(gE l k).t, (gE l k).o, (gE l k).l, (gE l k).h + 1⟩ = ([], 6) := by
  have hn := hl.num _ (gE_mem hk)
  have hx := ix_at hl.srt hk (u := ⟨(gE l k).t, (gE l k).o, (gE l k).l, (gE l k).h + 1⟩) ((key_iff _ _).2 ⟨rfl, rfl⟩)
  have c3 : hasK l (ix l ⟨(gE l k).t, (gE l k).o, (gE l k).l, (gE l k).h + 1⟩) ⟨(gE l k).t, (gE l k).o, (gE l k).l, (gE l k).h + 1⟩ = true := by
    unfold hasK
    have hkk : key (gE l k) ⟨(gE l k).t, (gE l k).o, (gE l k).l, (gE l k).h + 1⟩ = true := (key_iff _ _).2 ⟨rfl, rfl⟩
    rw [hx, decide_eq_true hk, hkk]; rfl
  have c2 : p30 ⟨(gE l k).t, (gE l k).o, (gE l k).l, (gE l k).h + 1⟩ = false := by
    rw [valid_bad]
    unfold p32
    rw [Bool.not_eq_false']
    simp only [Bool.and_eq_true, decide_eq_true_eq]
    omega
  have c4 : decide (gE l k = ⟨(gE l k).t, (gE l k).o, (gE l k).l, (gE l k).h + 1⟩) = false := decide_eq_false fun h => by
    have := congrArg Ent.h h
    simp only at this
    omega
  unfold add
  exact sel_r (by rw [hl.chk0]; rfl) (sel_r c2 (sel_l c3 (sel_r (by rw [hx]; exact c4) rfl)))
theorem law7 (x : List IL) (t z : Nat) (w : Int) (ht : t ≤ 255) (hz : z ≤ 255) : p7 x t z w = true ∧ g7 x t z w = true := by
  have ga := g10_of (isJ_of x)
  have hl := made10 ⟨x.length, fun k => rJ (gJ x k)⟩
  unfold p7 g7
  simp only [ga, ls_id, ok_id]
  generalize p10 ⟨x.length, fun k => rJ (gJ x k)⟩ = l at *
  have hlen := hl.len
  have hloop := loop7 (z := (z : Int)) (T := Int.tmod (W w) 4) hl ht
  simp only at hloop
  generalize lp (st7_0 ⟨(t : Int), (z : Int), l.length, fun k => rE (gE l k), Int.tmod (W w) 4, (l.length : Int)⟩) ⟨0, 0, 0, 0, 0, fun _ => []⟩ = r at *
  obtain ⟨h1, h2, h3⟩ := hloop
  have hT := tot_made hl (Int.tmod (W w) 4)
  have hgT : gT l (Int.tmod (W w) 4) = true := decide_eq_true (by omega)
  have hs := same_ok (l := l) (by omega)
  rcases h1 with ⟨h1, rfl⟩ | ⟨h1, hne, hn, hg⟩
  · simp only [h1, h2, h3, hT, hgT, hs, bne_self_eq_false]
    exact ⟨rfl, rfl⟩
  · have h0 : 0 < l.length := List.length_pos_iff.2 hne
    have hz0 : ((l.length : Int) == 0) = false := beq_eq_false_iff_ne.2 (by omega)
    have hi : Int.tmod (W (z : Int)) (l.length : Int) = ((z % l.length : Nat) : Int) := by
      rw [W_id (by omega) (by omega)]; rfl
    have hk : z % l.length < l.length := Nat.mod_lt _ h0
    have hnum := hl.num _ (gE_mem hk)
    have hw : W ((gE l (z % l.length)).h + 1) = (gE l (z % l.length)).h + 1 := W_id (by omega) (by omega)
    have a1 := add_same hl hk
    have a2 := add_twice hl hk
    have hgA : ∀ u, gA l u = true := fun u => decide_eq_true (by omega)
    simp only [h1, h2, h3, hn, hg, ls_id, ok_id, hT, hgT, hs, hz0, hi, Int.toNat_natCast, inB_nat hk, hw, hgA, pA, e_eta, a1, a2, bne_self_eq_false, BEq.rfl]
    exact ⟨rfl, rfl⟩
theorem law7S (x : List IL) (y z w : Int) (hy : 0 ≤ y ∧ y ≤ 255) (hz : 0 ≤ z ∧ z ≤ 255) : (S7 [eJL x, .v (.int .u8 y), .v (.int .u8 z), .v (.int .u8 w)] []).run = some (b true, []) := by
  obtain ⟨x', h1, _⟩ := exactCod_dec eJL x
  have h1 : cJL.dec (eJL x) = some x' := h1
  obtain ⟨t, rfl⟩ := Int.eq_ofNat_of_zero_le hy.1
  obtain ⟨q, rfl⟩ := Int.eq_ofNat_of_zero_le hz.1
  obtain ⟨h2, h3⟩ := law7 x' t q w (by omega) (by omega)
  unfold S7 sum4
  simp only [h1]
  show (DT.guard true (DT.guard true (DT.guard true (DT.guard true (DT.guard (g7 x' (t : Int) (q : Int) w) (.ret (b (p7 x' (t : Int) (q : Int) w), []))))))).run = _
  rw [h2, h3]
  rfl
end Go.Ev.W.X
