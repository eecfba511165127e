/- Ledgers around the truth (own work). -/
import Derived.Test.YtblhkhjdkjjheaaEvXO
import Derived.Test.YtblhkhjdkjjheaaEvXL
set_option linter.unusedVariables false
set_option linter.unusedSimpArgs false
set_option linter.unnecessarySimpa false
set_option linter.unusedSectionVars false
namespace Go.Ev.W.X
open Go Go.Ev Go.Ev.W Go.Proofs
set_option maxRecDepth 100000
theorem f_t (e : Ent) : toI (hdA (rE e)) = e.t := rfl
theorem f_o (e : Ent) : toI (hdA (tlA (rE e))) = e.o := rfl
theorem f_l (e : Ent) : toI (hdA (tlA (tlA (rE e)))) = e.l := rfl
theorem f_h (e : Ent) : toI (hdA (tlA (tlA (tlA (rE e))))) = e.h := rfl
theorem g25_ok (N : IL) {t o : Int} (h1 : 0 ≤ t ∧ t ≤ 1000) (h2 : 0 ≤ o ∧ o ≤ 1000) : g25 N t o = true := by
  unfold g25
  rw [W_id (n := 4 * t) (by omega) (by omega), W_id (n := 4 * t + o) (by omega) (by omega)]
  by_cases h : 4 * t + o ≥ (N.n : Int)
  · rw [decide_eq_true h]; rfl
  · rw [decide_eq_false h, g19_ok _ (by omega)]
    have : inB (4 * t + o) N.n = true := by
      obtain ⟨k, hk⟩ := Int.eq_ofNat_of_zero_le (show 0 ≤ 4 * t + o by omega)
      rw [hk]; exact inB_nat (by omega)
    rw [this]; rfl
theorem p25_range (N : IL) (t o : Int) : 0 ≤ p25 N t o ∧ p25 N t o ≤ 30 := by
  unfold p25
  have h := mod_range (a := N.g (W ((W (4 * t)) + o)).toNat) (b := 31) (by omega) (by omega)
  cases decide ((W ((W (4 * t)) + o)) ≥ (N.n : Int)) with
  | true => exact ⟨by show (0 : Int) ≤ 7; omega, by show (7 : Int) ≤ 30; omega⟩
  | false => exact ⟨h.1, by show p19 _ 31 ≤ 30; omega⟩
noncomputable def widen (N : IL) (e : Ent) : Ent := ⟨e.t, e.o, if p25 N e.t e.o < e.l then p25 N e.t e.o else e.l, if p25 N e.t e.o > e.h then p25 N e.t e.o else e.h⟩
noncomputable def inr (e : Ent) : Bool := (decide (0 ≤ e.t) && decide (e.t ≤ 1000)) && (decide (0 ≤ e.o) && decide (e.o ≤ 1000))
theorem inr_ok {e : Ent} (h : inr e = true) : (0 ≤ e.t ∧ e.t ≤ 1000) ∧ 0 ≤ e.o ∧ e.o ≤ 1000 := by
  unfold inr at h
  simp only [Bool.and_eq_true, decide_eq_true_eq] at h
  exact h
def Rep24 (s : Sg24_0) (out : List Ent) : Prop := (s.ph = 0 ∧ out = []) ∨ (s.ph = 1 ∧ out ≠ [] ∧ s.ns5 = out.length ∧ s.eh0 = mapL rE out)
theorem step24 {l out : List Ent} {N : IL} {s : Sg24_0} {j : Nat} (hj : j < l.length) (hb : l.length ≤ 1000) (ho : out.length ≤ 1000) (hs : s.is11 = (j : Int)) (hi : inr (gE l j) = true) (hr : Rep24 s out) :
    ∃ s', st24_0 ⟨N.n, fun k => [i (N.g k)], l.length, fun k => rE (gE l k), (l.length : Int)⟩ s = .next s' ∧ s'.is11 = ((j + 1 : Nat) : Int) ∧ Rep24 s' (out ++ [widen N (gE l j)]) := by
  obtain ⟨ph, is, ns, eh⟩ := s
  simp only at hs
  subst hs
  obtain ⟨h1, h2⟩ := inr_ok hi
  have hg := g25_ok N h1 h2
  have hN : (⟨N.n, fun k => toI (hdA [i (N.g k)])⟩ : IL) = N := rfl
  have hok := okInts_can N.n N.g
  have hw := W_next hj (show l.length ≤ 4611686018427387904 by omega)
  refine ⟨⟨1, ((j + 1 : Nat) : Int), (out ++ [widen N (gE l j)]).length, mapL rE (out ++ [widen N (gE l j)])⟩, ?_, rfl, .inr ⟨rfl, by simp, rfl, rfl⟩⟩
  rw [← app1, show (out ++ [widen N (gE l j)]).length = out.length + 1 by simp]
  rcases hr with ⟨hp, hz⟩ | ⟨hp, hz, hn, he⟩
  · simp only at hp
    subst hp hz
    simp only [st24_0, su24_0_0, dec_lt hj, inB_nat hj, Int.toNat_natCast, f_t, f_o, f_l, f_h, hN, hok, hg, hw]
    rfl
  · simp only at hp hn he
    subst hp hn he
    have hb5 : Nat.ble ((out.length + 1) * 32) room = true := room_le (by omega)
    simp only [st24_0, su24_0_1, dec_lt hj, inB_nat hj, Int.toNat_natCast, f_t, f_o, f_l, f_h, hN, hok, hg, hw, len_rows, Nat.beq_refl, hb5]
    rfl
theorem loop24 {l : List Ent} {N : IL} (hb : l.length ≤ 1000) (hi : ∀ e ∈ l, inr e = true) :
    let r := lp (st24_0 ⟨N.n, fun k => [i (N.g k)], l.length, fun k => rE (gE l k), (l.length : Int)⟩) ⟨0, 0, 0, []⟩
    (r.1 = 1 ∧ l.map (widen N) = []) ∨ (r.1 = 2 ∧ r.2.ns5 = (l.map (widen N)).length ∧ r.2.eh0 = mapL rE (l.map (widen N))) := by
  refine lp_inv2 (step := st24_0 ⟨N.n, fun k => [i (N.g k)], l.length, fun k => rE (gE l k), (l.length : Int)⟩)
    (I := fun m (s : Sg24_0) => ∃ (j : Nat) (out : List Ent), m = l.length - j ∧ j ≤ l.length ∧ out.length = j ∧ s.is11 = (j : Int) ∧ Rep24 s out ∧ out ++ (l.drop j).map (widen N) = l.map (widen N))
    (Q := fun q (s : Sg24_0) => (q = 1 ∧ l.map (widen N) = []) ∨ (q = 2 ∧ s.ns5 = (l.map (widen N)).length ∧ s.eh0 = mapL rE (l.map (widen N)))) (fun m s hI => ?_) l.length _ (by omega)
    ⟨0, [], by omega, by omega, rfl, rfl, .inl ⟨rfl, rfl⟩, rfl⟩
  obtain ⟨j, out, rfl, hj, hlen, hs, hr, he⟩ := hI
  by_cases hlt : j < l.length
  · have hm : gE l j ∈ l := by rw [gE_at hlt]; exact List.getElem_mem hlt
    obtain ⟨s', e1, e2, e3⟩ := step24 (N := N) hlt hb (by omega) hs (hi _ hm) hr
    refine .inr ⟨s', l.length - (j + 1), by omega, e1, j + 1, _, rfl, by omega, by simp [hlen], e2, e3, ?_⟩
    rw [← he, List.drop_eq_getElem_cons hlt, gE_at hlt]
    simp only [List.map_cons, List.append_assoc, List.singleton_append]
  · have hjn : j = l.length := by omega
    subst hjn
    rw [List.drop_length, List.map_nil, List.append_nil] at he
    obtain ⟨ph, is, ns, eh⟩ := s
    simp only at hs
    subst hs
    rcases hr with ⟨hp, hz⟩ | ⟨hp, hz, hn, hh⟩
    · simp only at hp
      subst hp
      refine .inl ⟨1, ?_, .inl ⟨rfl, by rw [← he]; exact hz⟩⟩
      simp only [st24_0, su24_0_0, dec_nlt (Nat.le_refl _)]
      rfl
    · simp only at hp
      subst hp
      refine .inl ⟨2, ?_, .inr ⟨rfl, by rw [← he]; exact hn, by rw [← he]; exact hh⟩⟩
      simp only [st24_0, su24_0_1, dec_nlt (Nat.le_refl _)]
      rfl
noncomputable def p24 (l : List Ent) (N : IL) : List Ent := l.map (widen N)
noncomputable def g24 (l : List Ent) (_ : IL) : Bool := decide (l.length ≤ 1000) && l.all inr
noncomputable def S24t : Sum := sum2 cEL cL fun l N => .guard (g24 l N) (.ret (eEL (p24 l N), []))
theorem ok24t : FnOk Try.prog G 24 S24t := sum2_conv ok24u fun l N v out h => by
  obtain ⟨h1, rfl, rfl⟩ := guard_some h
  unfold g24 at h1
  rw [Bool.and_eq_true] at h1
  have hl := loop24 (N := N) (of_decide_eq_true h1.1) (List.all_eq_true.1 h1.2)
  refine ⟨rfl, ?_⟩
  show ∃ r o, (ko24 (p24u l N)).run = some (r, o) ∧ LeRes r o (eEL (p24 l N))
  simp only at hl
  unfold p24u p24
  generalize lp (st24_0 ⟨N.n, fun k => [i (N.g k)], l.length, fun k => rE (gE l k), (l.length : Int)⟩) ⟨0, 0, 0, []⟩ = r at *
  rcases hl with ⟨e1, e2⟩ | ⟨e1, e2, e3⟩
  · simp only [e1, e2]
    exact ⟨.v (.slice none 0 0), [], rfl, ⟨.v (.slice none 0 0), rfl, ALe.nilTree _ _⟩⟩
  · simp only [e1, e2, e3]
    exact ⟨_, _, rfl, leOwn1 _⟩
/-! ### at -/
theorem at26 (l : List Ent) (u : Ent) (hb : l.length ≤ 1000000) : p26 l u = sel (l.any fun e => key e u) ((l.takeWhile fun e => !key e u).length : Int) (-1) ∧ g26 l u = true := by
  have l0 := lp_ff2 (step := st26_0 ⟨l.length, fun k => rE (gE l k), (l.length : Int), u.t, u.o, u.l, u.h⟩) (enc := fun j => ⟨(j : Int)⟩) (q := fun j => key (gE l j) u) (n := l.length) (t1 := 1) (t2 := 2)
    (fun j hj => by
      simp only [st26_0, su26_0_0, dec_lt hj, inB_nat hj, W_next hj (show l.length ≤ 4611686018427387904 by omega), Int.toNat_natCast, f_t, f_o]
      unfold key
      cases (gE l j).t == u.t with
      | false => rfl
      | true => cases (gE l j).o == u.o <;> rfl)
    (by simp only [st26_0, su26_0_0, dec_nlt (Nat.le_refl _)]) 0 (by omega) (by omega)
  have a0 := ff_list (p := fun e : Ent => key e u) (d := ⟨0, 0, 0, 0⟩) l (fun j => key (gE l j) u) 0 fun k hk => by rw [Nat.zero_add]
  rw [Nat.zero_add, Nat.zero_add] at a0
  rw [Nat.sub_zero, a0.2, a0.1] at l0
  have e0 : (⟨0⟩ : Sg26_0) = ⟨((0 : Nat) : Int)⟩ := rfl
  simp only [p26, g26, e0, l0]
  cases l.any fun e => key e u <;> exact ⟨rfl, rfl⟩
end Go.Ev.W.X

