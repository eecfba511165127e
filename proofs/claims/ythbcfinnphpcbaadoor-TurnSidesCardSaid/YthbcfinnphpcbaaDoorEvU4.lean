/- What the loops over lists of planes come to (own work). -/
import Derived.Test.YthbcfinnphpcbaaDoorEvU3
import Derived.Test.YthbcfinnphpcbaaDoorEvLp
import Derived.Test.YthbcfinnphpcbaaDoorEvTA
import Derived.Test.YthbcfinnphpcbaaDoorEvTD
set_option linter.unusedVariables false
set_option linter.unusedSimpArgs false
set_option linter.unnecessarySimpa false
set_option linter.unusedSectionVars false
namespace Go.Ev.T
open Go Go.Ev Go.Proofs
theorem W_next {j n : Nat} (h : j < n) (hn : n ≤ 4611686018427387904) : W ((j : Int) + 1) = ((j + 1 : Nat) : Int) := by
  rw [W_id (by omega) (by omega)]
  rfl
theorem dec_lt {j n : Nat} (h : j < n) : decide ((j : Int) < (n : Int)) = true := decide_eq_true (by omega)
theorem dec_nlt {j n : Nat} (h : n ≤ j) : decide ((j : Int) < (n : Int)) = false := decide_eq_false (by omega)
theorem drop_step {α : Type} (d : α) {l : List α} {j : Nat} (h : j < l.length) : l.drop j = l.getD j d :: l.drop (j + 1) := by
  rw [List.drop_eq_getElem_cons h, List.getD_eq_getElem?_getD, List.getElem?_eq_getElem h]
  rfl
theorem pln_ext {a c : Pln} (h1 : a.n.x = c.n.x) (h2 : a.n.y = c.n.y) (h3 : a.n.z = c.n.z) (h4 : a.b = c.b) : a = c := by
  obtain ⟨⟨a1, a2, a3⟩, a4⟩ := a
  obtain ⟨⟨c1, c2, c3⟩, c4⟩ := c
  simp only at h1 h2 h3 h4
  subst h1 h2 h3 h4
  rfl
noncomputable def pd (P : Prop) : Bool := @decide P (Classical.propDecidable P)
theorem pd_true {P : Prop} (h : P) : pd P = true := @decide_eq_true P (Classical.propDecidable P) h
theorem pd_false {P : Prop} (h : ¬ P) : pd P = false := @decide_eq_false P (Classical.propDecidable P) h
theorem pd_iff {P : Prop} : pd P = true ↔ P := ⟨fun h => @of_decide_eq_true P (Classical.propDecidable P) h, pd_true⟩

/-! ### SamePlanes -/
theorem step32 (x y : List Pln) {j : Nat} (h1 : j < x.length) (h2 : j < y.length) (hb : x.length ≤ 4611686018427387904) :
    st32_0 ⟨x.length, fun k => rP (gP x k), y.length, fun k => rP (gP y k)⟩ ⟨j⟩ = sel (pd (gP x j = gP y j)) (.next ⟨((j + 1 : Nat) : Int)⟩) (.exit 1) := by
  simp only [st32_0, su32_0_0, dec_lt h1, inB_nat h1, inB_nat h2, W_next h1 hb, Int.toNat_natCast]
  show sel true (sel true (sel true (sel true (sel true (sel (α := Stp Sg32_0) (!((gP x j).n.x == (gP y j).n.x && ((gP x j).n.y == (gP y j).n.y && ((gP x j).n.z == (gP y j).n.z && ((gP x j).b == (gP y j).b && true))))) (.exit 1) (.next ⟨((j + 1 : Nat) : Int)⟩)) .fail) .fail) .fail) .fail) (.exit 2) = _
  by_cases he : gP x j = gP y j
  · rw [pd_true he, he]
    simp only [BEq.rfl, Bool.and_self, Bool.not_true]
  · rw [pd_false he]
    have : ((gP x j).n.x == (gP y j).n.x && ((gP x j).n.y == (gP y j).n.y && ((gP x j).n.z == (gP y j).n.z && ((gP x j).b == (gP y j).b && true)))) = false := by
      cases hc : ((gP x j).n.x == (gP y j).n.x && ((gP x j).n.y == (gP y j).n.y && ((gP x j).n.z == (gP y j).n.z && ((gP x j).b == (gP y j).b && true)))) with
      | false => rfl
      | true =>
        simp only [Bool.and_eq_true, beq_iff_eq] at hc
        exact absurd (pln_ext hc.1 hc.2.1 hc.2.2.1 hc.2.2.2.1) he
    rw [this]
    rfl
theorem lp32 (x y : List Pln) (hl : x.length = y.length) (hb : x.length ≤ 4611686018427387904) : ∀ (m j : Nat), x.length - j = m → j ≤ x.length → ∀ n, m ≤ n →
    (lp0 (st32_0 ⟨x.length, fun k => rP (gP x k), y.length, fun k => rP (gP y k)⟩) n ⟨j⟩).1 = sel (pd (x.drop j = y.drop j)) 2 1
  | 0, j, hm, hj, n, hn => by
    have hj : j = x.length := by omega
    subst hj
    rw [lp0_exit (t := 2)]
    · have h1 : x.drop x.length = [] := List.drop_length
      have h2 : y.drop x.length = [] := by rw [hl]; exact List.drop_length
      rw [h1, h2]
      rw [pd_true rfl]
    · simp only [st32_0, su32_0_0, dec_nlt (Nat.le_refl _)]
  | m + 1, j, hm, hj, 0, hn => by omega
  | m + 1, j, hm, hj, n + 1, hn => by
    have h1 : j < x.length := by omega
    have h2 : j < y.length := by omega
    have hs := step32 x y h1 h2 hb
    rw [drop_step ⟨⟨0, 0, 0⟩, 0⟩ h1, drop_step ⟨⟨0, 0, 0⟩, 0⟩ h2]
    by_cases he : gP x j = gP y j
    · rw [pd_true he] at hs
      rw [lp0_next hs, lp32 x y hl hb m (j + 1) (by omega) (by omega) n (by omega)]
      have he' : x.getD j ⟨⟨0, 0, 0⟩, 0⟩ = y.getD j ⟨⟨0, 0, 0⟩, 0⟩ := he
      rw [he']
      congr 1
      exact congrArg pd (propext ⟨fun h => by rw [h], fun h => by injection h⟩)
    · rw [pd_false he] at hs
      rw [lp0_exit hs, pd_false]
      intro h
      injection h with h _
      exact he h
theorem same_eq (x y : List Pln) (hb : x.length ≤ 4611686018427387904) : p32 x y = pd (x = y) ∧ g32 x y = true := by
  unfold p32 g32
  by_cases hl : x.length = y.length
  · have h := lp32 x y hl hb x.length 0 (by omega) (by omega) rounds (by unfold rounds; omega)
    rw [List.drop_zero, List.drop_zero] at h
    have e : ((x.length : Int) != (y.length : Int)) = false := by simp [hl]
    simp only [lp_eq, e]
    have h : (lp0 (st32_0 ⟨x.length, fun k => rP (gP x k), y.length, fun k => rP (gP y k)⟩) rounds ⟨0⟩).1 = _ := h
    rw [h]
    by_cases he : x = y
    · rw [pd_true he]
      exact ⟨rfl, rfl⟩
    · rw [pd_false he]
      exact ⟨rfl, rfl⟩
  · have e : ((x.length : Int) != (y.length : Int)) = true := by
      simp only [bne_iff_ne, ne_eq]
      omega
    rw [pd_false (fun h => hl (by rw [h]))]
    simp only [e]
    exact ⟨rfl, rfl⟩
end Go.Ev.T
namespace Go.Ev.T
open Go Go.Ev Go.Proofs
/-- plane by plane, as long as all can be moved -/
def cellF (q : Pln → Pln × Bool) : List Pln → Option (List Pln)
  | [] => some []
  | x :: l => match (q x).2 with
    | true => (cellF q l).map fun r => (q x).1 :: r
    | false => none
theorem cellF_len {q : Pln → Pln × Bool} : ∀ {l r : List Pln}, cellF q l = some r → r.length = l.length
  | [], r, h => by cases h; rfl
  | x :: l, r, h => by
    unfold cellF at h
    cases hq : (q x).2 with
    | false => rw [hq] at h; cases h
    | true =>
      rw [hq] at h
      cases hc : cellF q l with
      | none => rw [hc] at h; cases h
      | some r' =>
        rw [hc] at h
        cases h
        simp [cellF_len hc]
theorem gP_mem {y : List Pln} {j : Nat} (h : j < y.length) : gP y j ∈ y := by
  show y.getD j _ ∈ y
  rw [List.getD_eq_getElem?_getD, List.getElem?_eq_getElem h]
  exact List.getElem_mem h
noncomputable abbrev P30 (f : Frm) (y : List Pln) : Pg30_0 := ⟨(↑(List.length y) : Int).toNat, (List.length y), (fun k => rP (gP y k)), (↑(List.length y) : Int), f.t.m.r0.x, f.t.m.r0.y, f.t.m.r0.z, f.t.m.r1.x, f.t.m.r1.y, f.t.m.r1.z, f.t.m.r2.x, f.t.m.r2.y, f.t.m.r2.z, f.t.d, f.s.x, f.s.y, f.s.z⟩
theorem step30 (f : Frm) (y out : List Pln) {j : Nat} (h1 : j < y.length) (hl : out.length = y.length) (hb : y.length ≤ 4611686018427387904) (hg : g28 f (gP y j) = true) :
    st30_0 (P30 f y) ⟨j, mapL rP out⟩ = sel (!(p28 f (gP y j)).2) (.exit 1) (.next ⟨((j + 1 : Nat) : Int), mapL rP (out.set j (p28 f (gP y j)).1)⟩) := by
  have hj : j < out.length := by omega
  have e2 : getRow (mapL rP out) j = rP (gP out j) := getRow_mapL rP _ hj
  simp only [st30_0, su30_0_0, dec_lt h1, inB_nat h1, Int.toNat_natCast, W_next h1 hb, e2, len_mapL, Nat.zero_add]
  have e3 : Nat.blt j out.length = true := by rw [Nat.blt_eq]; exact hj
  rw [e3]
  show sel true (sel true (sel true (sel (α := Stp Sg30_0) (g28 f (gP y j)) (sel (!(p28 f (gP y j)).2) (.exit 1) (sel true (sel true (.next ⟨((j + 1 : Nat) : Int), setAt (mapL rP out) j (rP (p28 f (gP y j)).1)⟩) .fail) .fail)) .fail) .fail) .fail) (.exit 2) = _
  rw [hg, setAt_mapL]
theorem lp30 (f : Frm) (y : List Pln) (hb : y.length ≤ 4611686018427387904) (hg : ∀ x, x ∈ y → g28 f x = true) : ∀ (m j : Nat) (out : List Pln), y.length - j = m → j ≤ y.length → out.length = y.length → ∀ n, m ≤ n →
    match cellF (p28 f) (y.drop j) with
    | none => (lp0 (st30_0 (P30 f y)) n ⟨j, mapL rP out⟩).1 = 1
    | some l => lp0 (st30_0 (P30 f y)) n ⟨j, mapL rP out⟩ = (2, ⟨y.length, mapL rP (out.take j ++ l)⟩)
  | 0, j, out, hm, hj, hl, n, hn => by
    have hj : j = y.length := by omega
    subst hj
    rw [lp0_exit (t := 2)]
    · rw [List.drop_length]
      show _ = _
      rw [List.take_of_length_le (by omega), List.append_nil]
    · simp only [st30_0, su30_0_0, dec_nlt (Nat.le_refl _)]
  | m + 1, j, out, hm, hj, hl, 0, hn => by omega
  | m + 1, j, out, hm, hj, hl, n + 1, hn => by
    have h1 : j < y.length := by omega
    have hs := step30 f y out h1 hl hb (hg _ (gP_mem h1))
    rw [drop_step ⟨⟨0, 0, 0⟩, 0⟩ h1]
    unfold cellF
    cases hq : (p28 f (gP y j)).2 with
    | false =>
      rw [hq] at hs
      show (lp0 (st30_0 (P30 f y)) (n + 1) ⟨j, mapL rP out⟩).1 = 1
      rw [lp0_exit hs]
    | true =>
      rw [hq] at hs
      rw [lp0_next hs]
      have ih := lp30 f y hb hg m (j + 1) (out.set j (p28 f (gP y j)).1) (by omega) (by omega) (by simp [hl]) n (by omega)
      cases hc : cellF (p28 f) (y.drop (j + 1)) with
      | none => rw [hc] at ih; exact ih
      | some l =>
        rw [hc] at ih
        refine ih.trans ?_
        have : (out.set j (p28 f (gP y j)).1).take (j + 1) ++ l = out.take j ++ ((p28 f (gP y j)).1 :: l) := by
          rw [List.take_succ_eq_append_getElem (by simp; omega), List.take_set_of_le (Nat.le_refl j)]
          simp
        rw [this]
theorem loop30 (f : Frm) (y : List Pln) (hb : y.length ≤ 4611686018427387904) (hg : ∀ x, x ∈ y → g28 f x = true) :
    match cellF (p28 f) y with
    | none => (lp (st30_0 (P30 f y)) ⟨0, List.replicate (↑(List.length y) : Int).toNat [i 0, i 0, i 0, i 0]⟩).1 = 1
    | some l => lp (st30_0 (P30 f y)) ⟨0, List.replicate (↑(List.length y) : Int).toNat [i 0, i 0, i 0, i 0]⟩ = (2, ⟨y.length, mapL rP l⟩) := by
  have h := lp30 f y hb hg y.length 0 (List.replicate y.length ⟨⟨0, 0, 0⟩, 0⟩) (by omega) (by omega) (by simp) rounds (by unfold rounds; omega)
  have e : mapL rP (List.replicate y.length ⟨⟨0, 0, 0⟩, 0⟩) = List.replicate (↑(List.length y) : Int).toNat [i 0, i 0, i 0, i 0] := by
    rw [mapL_eq, List.map_replicate]
    rfl
  rw [e] at h
  rw [lp_eq]
  rw [List.drop_zero, List.take_zero] at h
  exact h

noncomputable abbrev P31 (f : Frm) (y : List Pln) : Pg31_0 := ⟨(List.length y), (fun k => rP (gP y k)), f.t.m.r0.x, f.t.m.r0.y, f.t.m.r0.z, f.t.m.r1.x, f.t.m.r1.y, f.t.m.r1.z, f.t.m.r2.x, f.t.m.r2.y, f.t.m.r2.z, f.t.d, f.s.x, f.s.y, f.s.z⟩
theorem first31 (f : Frm) (y : List Pln) (h1 : 0 < y.length) (hg : g29 f (gP y 0) = true) :
    st31_0 (P31 f y) ⟨0, 0, 0, []⟩ = sel (!(p29 f (gP y 0)).2) (.exit 1) (.next ⟨1, 1, 1, mapL rP [(p29 f (gP y 0)).1]⟩) := by
  have e1 : decide ((0 : Int) < (y.length : Int)) = true := dec_lt (j := 0) h1
  have e2 : inB 0 y.length = true := inB_nat (j := 0) h1
  simp only [st31_0, su31_0_0, e1, e2]
  show sel (α := Stp Sg31_0) (g29 f (gP y 0)) (sel (!(p29 f (gP y 0)).2) (.exit 1) (.next ⟨1, 1, 1, mapL rP [(p29 f (gP y 0)).1]⟩)) .fail = _
  rw [hg]
theorem step31 (f : Frm) (y out : List Pln) {j : Nat} (h1 : j < y.length) (hl : out.length = j) (hb : y.length ≤ 1099511627776) (hg : g29 f (gP y j) = true) :
    st31_0 (P31 f y) ⟨1, out.length, j, mapL rP out⟩ = sel (!(p29 f (gP y j)).2) (.exit 3) (.next ⟨1, (out ++ [(p29 f (gP y j)).1]).length, ((j + 1 : Nat) : Int), mapL rP (out ++ [(p29 f (gP y j)).1])⟩) := by
  have e3 : Nat.beq out.length out.length = true := Nat.beq_refl _
  have e4 : Nat.ble ((out.length + 1) * 32) room = true := by
    rw [Nat.ble_eq]
    unfold room
    omega
  simp only [st31_0, su31_0_1, dec_lt h1, inB_nat h1, Int.toNat_natCast, W_next h1 (by omega), len_mapL, e3, e4]
  show sel (α := Stp Sg31_0) (g29 f (gP y j)) (sel (!(p29 f (gP y j)).2) (.exit 3) (.next ⟨1, out.length + 1, ((j + 1 : Nat) : Int), app (mapL rP out) (mapL rP [(p29 f (gP y j)).1])⟩)) .fail = _
  rw [hg, app_mapL]
  simp
theorem lp31 (f : Frm) (y : List Pln) (hb : y.length ≤ 1099511627776) (hg : ∀ x, x ∈ y → g29 f x = true) : ∀ (m j : Nat) (out : List Pln), y.length - j = m → j ≤ y.length → out.length = j → ∀ n, m ≤ n →
    match cellF (p29 f) (y.drop j) with
    | none => (lp0 (st31_0 (P31 f y)) n ⟨1, out.length, j, mapL rP out⟩).1 = 3
    | some l => lp0 (st31_0 (P31 f y)) n ⟨1, out.length, j, mapL rP out⟩ = (4, ⟨1, (out ++ l).length, y.length, mapL rP (out ++ l)⟩)
  | 0, j, out, hm, hj, hl, n, hn => by
    have hj : j = y.length := by omega
    rw [lp0_exit (t := 4)]
    · rw [hj, List.drop_length]
      show _ = _
      rw [List.append_nil]
    · simp only [st31_0, su31_0_1, dec_nlt (Nat.le_of_eq hj.symm)]
      rfl
  | m + 1, j, out, hm, hj, hl, 0, hn => by omega
  | m + 1, j, out, hm, hj, hl, n + 1, hn => by
    have h1 : j < y.length := by omega
    have hs := step31 f y out h1 hl hb (hg _ (gP_mem h1))
    rw [drop_step ⟨⟨0, 0, 0⟩, 0⟩ h1]
    unfold cellF
    cases hq : (p29 f (gP y j)).2 with
    | false =>
      rw [hq] at hs
      show (lp0 (st31_0 (P31 f y)) (n + 1) ⟨1, out.length, j, mapL rP out⟩).1 = 3
      rw [lp0_exit hs]
    | true =>
      rw [hq] at hs
      rw [lp0_next hs]
      have ih := lp31 f y hb hg m (j + 1) (out ++ [(p29 f (gP y j)).1]) (by omega) (by omega) (by simp [hl]) n (by omega)
      cases hc : cellF (p29 f) (y.drop (j + 1)) with
      | none => rw [hc] at ih; exact ih
      | some l =>
        rw [hc] at ih
        refine ih.trans ?_
        rw [List.append_assoc]
        rfl
theorem loop31 (f : Frm) (y : List Pln) (h0 : y ≠ []) (hb : y.length ≤ 1099511627776) (hg : ∀ x, x ∈ y → g29 f x = true) :
    match cellF (p29 f) y with
    | none => (lp (st31_0 (P31 f y)) ⟨0, 0, 0, []⟩).1 = 1 ∨ (lp (st31_0 (P31 f y)) ⟨0, 0, 0, []⟩).1 = 3
    | some l => lp (st31_0 (P31 f y)) ⟨0, 0, 0, []⟩ = (4, ⟨1, l.length, y.length, mapL rP l⟩) := by
  have h1 : 0 < y.length := List.length_pos_iff.2 h0
  have hs := first31 f y h1 (hg _ (gP_mem h1))
  rw [lp_eq]
  have hy := drop_step ⟨⟨0, 0, 0⟩, 0⟩ h1
  rw [List.drop_zero] at hy
  have e : cellF (p29 f) y = (match (p29 f (gP y 0)).2 with | true => (cellF (p29 f) (y.drop (0 + 1))).map fun r => (p29 f (gP y 0)).1 :: r | false => none) := congrArg (cellF (p29 f)) hy
  rw [e]
  cases hq : (p29 f (gP y 0)).2 with
  | false =>
    rw [hq] at hs
    rw [lp0_exit hs]
    exact .inl rfl
  | true =>
    rw [hq] at hs
    rw [show rounds = 18446744073709551614 + 1 from rfl, lp0_next hs]
    have ih := lp31 f y hb hg (y.length - 1) 1 [(p29 f (gP y 0)).1] rfl (by omega) rfl 18446744073709551614 (by omega)
    cases hc : cellF (p29 f) (y.drop (0 + 1)) with
    | none => rw [show y.drop 1 = y.drop (0 + 1) from rfl, hc] at ih; exact .inr ih
    | some l => rw [show y.drop 1 = y.drop (0 + 1) from rfl, hc] at ih; exact ih
theorem loop31_nil (f : Frm) : (lp (st31_0 (P31 f [])) ⟨0, 0, 0, []⟩).1 = 2 := by
  rw [lp_eq, lp0_exit (t := 2)]
  simp only [st31_0, su31_0_0]
  rfl
end Go.Ev.T
namespace Go.Ev.T
open Go Go.Ev Go.Proofs
set_option maxRecDepth 100000
theorem w24 : W (0 - 24) = -24 := W_id (by omega) (by omega)
theorem w4608 : W (0 - 4608) = -4608 := W_id (by omega) (by omega)
theorem w21 : W (0 - 2097152) = -2097152 := W_id (by omega) (by omega)
theorem in_eq (v : V3) : p70 v = p68 v := by
  unfold p68 p74b p70
  rw [w24]
theorem mv_eq (m : M3) (v : V3) : p63 m v = p58 m v := rfl
theorem p65_eq (a c : V3) : p67 a c = p65 a c := rfl
theorem apply_eq (f : Frm) (v : V3) : p22 f v = p27 f v := by
  simp only [p22, p27, right_eq, in_eq, mv_eq, p65_eq, div_eq]
  cases (p57 (p58 f.t.m v) f.t.d).2 with
  | true => rfl
  | false => simp only [Bool.not_false, sel_t]; rfl
theorem g22_all (f : Frm) (v : V3) : g22 f v = true := by
  simp only [g22, g56_ok, Bool.true_and]
  cases h : p56 f with
  | false => rfl
  | true => rw [g57_ok _ (right_d h).1]; simp
theorem g27_ok (f : Frm) (v : V3) : g27 f v = true := by
  simp only [g27, g60_ok, right_eq, Bool.true_and]
  cases h : p56 f with
  | false => rfl
  | true => rw [g62_ok _ (right_d h).1]; simp

theorem abs_eq (x : Int) (h1 : -9223372036854775808 ≤ x) : p83 x = p84 x := by
  unfold p83 p84
  by_cases h : x < 0
  · rw [decide_eq_true h]
    show W (0 - x) = _
    split
    · rfl
    · next hn =>
      by_cases hm : x = -9223372036854775808
      · subst hm; rfl
      · rw [W_id (by omega) (by omega)] at hn ⊢
        omega
  · rw [decide_eq_false h]
    show x = _
    split
    · next hn =>
      by_cases hx : x ≤ 9223372036854775807
      · rw [W_id (by omega) (by omega)] at hn
        omega
      · exfalso
        have := W_hi (0 - x)
        omega
    · rfl
def word3 (v : V3) : Prop := (-9223372036854775808 ≤ v.x ∧ v.x ≤ 9223372036854775807) ∧ (-9223372036854775808 ≤ v.y ∧ v.y ≤ 9223372036854775807) ∧ -9223372036854775808 ≤ v.z ∧ v.z ≤ 9223372036854775807
theorem abs_word {x : Int} (h : x ≤ 9223372036854775807) : p84 x < 9223372036854775808 := by
  unfold p84
  split
  · have := W_hi (0 - x); omega
  · omega
theorem g75_ok {v : V3} (h : word3 v) : g75 v = true := by
  obtain ⟨h1, h2, h3⟩ := h
  simp only [g75, decide_eq_true (abs_word h1.2), decide_eq_true (abs_word h2.2), decide_eq_true (abs_word h3.2), Bool.or_true, Bool.and_true, Bool.true_and]
theorem prim_eq {v : V3} (h : word3 v) : p73 v = p71 v ∧ g73 v = g75 v := by
  obtain ⟨h1, h2, h3⟩ := h
  simp only [p73, p71, p75, g73, g75, abs_eq _ h1.1, abs_eq _ h2.1, abs_eq _ h3.1, and_true]
  cases (v.x == -9223372036854775808) with
  | true => rfl
  | false =>
    cases (v.y == -9223372036854775808) with
    | true => rfl
    | false => cases (v.z == -9223372036854775808) <;> rfl
theorem word_mv (m : M3) (v : V3) : word3 (p58 m v) := ⟨⟨W_lo _, W_hi _⟩, ⟨W_lo _, W_hi _⟩, W_lo _, W_hi _⟩
theorem normal_word {v : V3} (h : p74b 4608 v = true) : word3 v := by
  unfold p74b at h
  rw [w4608] at h
  simp only [Bool.and_eq_true, Bool.not_eq_true', decide_eq_false_iff_not] at h
  unfold word3
  omega
theorem p72_shape (y : Pln) : p72 y = (p74b 4608 y.n && ((p73 y.n).2 == 1 && p74a 2097152 y.b)) := by
  have e : p74a 2097152 y.b = (decide (y.b ≥ -2097152) && decide (y.b ≤ 2097152)) := by
    unfold p74a
    rw [w21, Bool.eq_iff_iff]
    simp only [Bool.and_eq_true, Bool.not_eq_true', decide_eq_false_iff_not, decide_eq_true_eq]
    omega
  rw [e]
  unfold p72 p74b
  rw [w4608]
  simp only [Bool.and_assoc]
theorem plane_valid (y : Pln) : p72 y = p34 y := by
  rw [p72_shape]
  simp only [p34]
  cases h : p74b 4608 y.n with
  | false => rfl
  | true =>
    have hw := normal_word h
    rw [(prim_eq hw).1]
    have e : ((p71 y.n).2 == 1) = (p75 y.n == 1) := by
      unfold p71
      simp only
      cases h0 : (p75 y.n == 0) with
      | true =>
        have : p75 y.n = 0 := by simpa using h0
        rw [this]
      | false => rfl
    rw [e]
theorem g34_ok (y : Pln) : g34 y = true := by
  simp only [g34]
  cases h : p74b 4608 y.n with
  | false => rfl
  | true => rw [g75_ok (normal_word h)]; rfl
theorem g72_ok (y : Pln) : g72 y = true := by
  have e : g72 y = (!(p74b 4608 y.n) || g73 y.n) := by
    unfold g72 p74b
    rw [w4608]
    simp only [Bool.not_and, Bool.not_not, Bool.or_assoc]
  rw [e]
  cases h : p74b 4608 y.n with
  | false => rfl
  | true => rw [(prim_eq (normal_word h)).2, g75_ok (normal_word h)]; rfl
theorem plane_eq (f : Frm) (y : Pln) : p28 f y = p29 f y := by
  simp only [p28, p29, right_eq, plane_valid, mv_eq, (prim_eq (word_mv f.t.m y.n)).1]
  rfl
theorem g28_ok (f : Frm) (y : Pln) : g28 f y = true := by
  simp only [g28, g56_ok, g34_ok, g71, g75_ok (word_mv _ _), Bool.true_and, Bool.or_true]
theorem g29_ok (f : Frm) (y : Pln) : g29 f y = true := by
  simp only [g29, g60_ok, g72_ok, (prim_eq (word_mv _ _)).2, mv_eq, g75_ok (word_mv _ _), Bool.true_and, Bool.or_true]
end Go.Ev.T
namespace Go.Ev.T
open Go Go.Ev Go.Proofs
set_option maxRecDepth 100000
noncomputable def p30 (f : Frm) (y : List Pln) : List Pln × Bool := sel (p56 f) (Option.rec (motive := fun _ => List Pln × Bool) ([], false) (fun l => (l, true)) (cellF (p28 f) y)) ([], false)
noncomputable def p31 (f : Frm) (y : List Pln) : List Pln × Bool := p30 f y
noncomputable def g30 (_ : Frm) (y : List Pln) : Bool := pd (y.length ≤ 1099511627776)
noncomputable def g31 (_ : Frm) (y : List Pln) : Bool := pd (y.length ≤ 1099511627776)
noncomputable def S30 : Sum := sum2 cF cPL fun x y => .guard (g30 x y) (.ret (.tup [ePL (p30 x y).1, b (p30 x y).2], []))
noncomputable def S31 : Sum := sum2 cF cPL fun x y => .guard (g31 x y) (.ret (.tup [ePL (p31 x y).1, b (p31 x y).2], []))
theorem leNone : LeRes (.tup [.v (.slice none 0 0), b false]) [] (.tup [ePL [], b false]) :=
  ⟨.tup [.v (.slice none 0 0), b false], rfl, ALe.tup rfl fun i x y hx hy => by
    match i with
    | 0 => cases hx; cases hy; exact fun ρ H F w v h => VRel.nilLe h
    | 1 => cases hx; cases hy; exact fun ρ H F w v h => h
    | i + 2 => cases hx⟩
theorem leSome (l : List Pln) (c : Bool) : LeRes (.tup [.sl 0 0 l.length 0, b c]) [⟨56, 4, mapL rP l, true, false, 0⟩] (.tup [ePL l, b c]) :=
  ⟨.tup [.tree 4 l.length fun i => getRow (mapL rP l) (0 + i), b c], rfl, ALe.tup rfl fun i x y hx hy => by
    match i with
    | 0 =>
      cases hx; cases hy
      exact fun ρ H F w v h => VRel.treeLe (fun k hk => by rw [Nat.zero_add]; exact (getRow_mapL rP _ hk).symm) h
    | 1 => cases hx; cases hy; exact fun ρ H F w v h => h
    | i + 2 => cases hx⟩
theorem grd_some {g : Bool} {x : AVal} {y : AVal} {out : List ABlk} (h : (DT.guard g (.ret (x, [])) : DT (AVal × List ABlk)).run = some (y, out)) : g = true ∧ y = x ∧ out = [] := by
  rw [run_grd] at h
  cases g with
  | false => cases h
  | true => cases h; exact ⟨rfl, rfl, rfl⟩
theorem room_ok {n : Nat} (h : n ≤ 1099511627776) : (inB (n : Int) (room + 1) && inB (n : Int) (room + 1) && Nat.ble ((n : Int)).toNat ((n : Int)).toNat && Nat.ble (((n : Int)).toNat * 32) room) = true := by
  rw [inB_nat (by unfold room; omega)]
  simp only [Int.toNat_natCast, Bool.and_self, Bool.true_and, Bool.and_eq_true, Nat.ble_eq]
  unfold room
  omega
theorem cell30 (f : Frm) (y : List Pln) (hb : y.length ≤ 1099511627776) : ∃ x o, (ko30 (p30u f y)).run = some (x, o) ∧ LeRes x o (.tup [ePL (p30 f y).1, b (p30 f y).2]) := by
  have hl := loop30 f y (by omega) (fun x _ => g28_ok f x)
  unfold p30u p30
  simp only [g56_ok, room_ok hb]
  cases hf : p56 f with
  | false => exact ⟨_, _, rfl, leNone⟩
  | true =>
    cases hc : cellF (p28 f) y with
    | none =>
      rw [hc] at hl
      have hl : (lp (st30_0 (P30 f y)) ⟨0, List.replicate (↑(List.length y) : Int).toNat [i 0, i 0, i 0, i 0]⟩).1 = 1 := hl
      refine ⟨.tup [.v (.slice none 0 0), b false], [], ?_, leNone⟩
      show (ko30 (sel (Nat.beq (lp (st30_0 (P30 f y)) ⟨0, List.replicate (↑(List.length y) : Int).toNat [i 0, i 0, i 0, i 0]⟩).1 1) _ _)).run = _
      rw [hl]
      rfl
    | some l =>
      rw [hc] at hl
      have hl : lp (st30_0 (P30 f y)) ⟨0, List.replicate (↑(List.length y) : Int).toNat [i 0, i 0, i 0, i 0]⟩ = (2, ⟨y.length, mapL rP l⟩) := hl
      refine ⟨.tup [.sl 0 0 l.length 0, b true], [⟨56, 4, mapL rP l, true, false, 0⟩], ?_, leSome l true⟩
      show (ko30 (sel (Nat.beq (lp (st30_0 (P30 f y)) ⟨0, List.replicate (↑(List.length y) : Int).toNat [i 0, i 0, i 0, i 0]⟩).1 1) _ (sel (Nat.beq (lp (st30_0 (P30 f y)) ⟨0, List.replicate (↑(List.length y) : Int).toNat [i 0, i 0, i 0, i 0]⟩).1 2) (⟨2, (↑(List.length y) : Int).toNat, (lp (st30_0 (P30 f y)) ⟨0, List.replicate (↑(List.length y) : Int).toNat [i 0, i 0, i 0, i 0]⟩).2.eh1⟩ : Rg30) _))).run = _
      rw [hl, cellF_len hc, Int.toNat_natCast]
      rfl
theorem ok30 : FnOk Tryd.prog G 30 S30 := sum2_conv ok30u fun f y v out h => by
  obtain ⟨h1, rfl, rfl⟩ := grd_some h
  exact ⟨rfl, cell30 f y (pd_iff.1 h1)⟩
theorem p29_fun (f : Frm) : p29 f = p28 f := funext fun y => (plane_eq f y).symm
theorem cell31 (f : Frm) (y : List Pln) (hb : y.length ≤ 1099511627776) : ∃ x o, (ko31 (p31u f y)).run = some (x, o) ∧ LeRes x o (.tup [ePL (p31 f y).1, b (p31 f y).2]) := by
  unfold p31u p31 p30
  simp only [g60_ok, right_eq]
  cases hf : p56 f with
  | false => exact ⟨_, _, rfl, leNone⟩
  | true =>
    by_cases h0 : y = []
    · subst h0
      refine ⟨.tup [.v (.slice none 0 0), b true], [], ?_, ⟨.tup [.v (.slice none 0 0), b true], rfl, ALe.tup rfl fun i x y hx hy => by
        match i with
        | 0 => cases hx; cases hy; exact fun ρ H F w v h => VRel.nilLe h
        | 1 => cases hx; cases hy; exact fun ρ H F w v h => h
        | i + 2 => cases hx⟩⟩
      show (ko31 (sel (Nat.beq (lp (st31_0 (P31 f [])) ⟨0, 0, 0, []⟩).1 1) _ (sel (Nat.beq (lp (st31_0 (P31 f [])) ⟨0, 0, 0, []⟩).1 2) _ _))).run = _
      rw [loop31_nil]
      rfl
    · have hl := loop31 f y h0 hb (fun x _ => g29_ok f x)
      rw [p29_fun] at hl
      cases hc : cellF (p28 f) y with
      | none =>
        rw [hc] at hl
        have hl : (lp (st31_0 (P31 f y)) ⟨0, 0, 0, []⟩).1 = 1 ∨ (lp (st31_0 (P31 f y)) ⟨0, 0, 0, []⟩).1 = 3 := hl
        refine ⟨.tup [.v (.slice none 0 0), b false], [], ?_, leNone⟩
        show (ko31 (sel (Nat.beq (lp (st31_0 (P31 f y)) ⟨0, 0, 0, []⟩).1 1) _ (sel (Nat.beq (lp (st31_0 (P31 f y)) ⟨0, 0, 0, []⟩).1 2) _ (sel (Nat.beq (lp (st31_0 (P31 f y)) ⟨0, 0, 0, []⟩).1 3) _ _)))).run = _
        rcases hl with hl | hl <;> rw [hl] <;> rfl
      | some l =>
        rw [hc] at hl
        have hl : lp (st31_0 (P31 f y)) ⟨0, 0, 0, []⟩ = (4, ⟨1, l.length, y.length, mapL rP l⟩) := hl
        refine ⟨.tup [.sl 0 0 l.length 0, b true], [⟨56, 4, mapL rP l, true, false, 0⟩], ?_, leSome l true⟩
        show (ko31 (sel (Nat.beq (lp (st31_0 (P31 f y)) ⟨0, 0, 0, []⟩).1 1) _ (sel (Nat.beq (lp (st31_0 (P31 f y)) ⟨0, 0, 0, []⟩).1 2) _ (sel (Nat.beq (lp (st31_0 (P31 f y)) ⟨0, 0, 0, []⟩).1 3) _ (sel (Nat.beq (lp (st31_0 (P31 f y)) ⟨0, 0, 0, []⟩).1 4) (⟨2, _, (lp (st31_0 (P31 f y)) ⟨0, 0, 0, []⟩).2.ns6, (lp (st31_0 (P31 f y)) ⟨0, 0, 0, []⟩).2.eh1⟩ : Rg31) _))))).run = _
        rw [hl]
        rfl
theorem ok31 : FnOk Tryd.prog G 31 S31 := sum2_conv ok31u fun f y v out h => by
  obtain ⟨h1, rfl, rfl⟩ := grd_some h
  exact ⟨rfl, cell31 f y (pd_iff.1 h1)⟩
theorem g69_ok (x y z : V3) : g69 x y z = true := by
  have h : ∀ a c : V3, word3 (p51 a c) := fun a c => ⟨⟨W_lo _, W_hi _⟩, ⟨W_lo _, W_hi _⟩, W_lo _, W_hi _⟩
  simp only [g69, (prim_eq (h _ _)).2, g75_ok (h _ _), Bool.or_true]
theorem g25_ok (x : IL) : g25 x = true := by
  obtain ⟨k, c1, h1, h2, h3⟩ := draw_ok (m := 8) (by omega) (by omega) x (c := 0) (by omega)
  obtain ⟨v, c2, h4, h5, h6⟩ := draw_ok (m := 17) (by omega) (by omega) x (c := c1) (by omega)
  obtain ⟨a1, a2, a3, c3, h7, h8, h9⟩ := vec_ok (m := 8) (by omega) (by omega) x (c := c2) (by omega)
  obtain ⟨b1, b2, b3, c4, h10, h11, h12⟩ := vec_ok (m := 8) (by omega) (by omega) x (c := c3) (by omega)
  obtain ⟨d1, d2, d3, c5, h13, h14, h15⟩ := vec_ok (m := 8) (by omega) (by omega) x (c := c4) (by omega)
  simp only [g25, h1, h4, h7, h10, h13, g69_ok, g17_ok _ (show (0 : Int) < 3 by omega), Bool.or_true]
  cases decide (k > 1) <;> rfl
theorem g26_ok (x : Pln) (y : V3) : g26 x y = true := by
  have hr := mod_range (a := y.z) (b := 9) (by omega) (by omega)
  have h9 : p17 y.z 9 = 0 ∨ p17 y.z 9 = 1 ∨ p17 y.z 9 = 2 ∨ p17 y.z 9 = 3 ∨ p17 y.z 9 = 4 ∨ p17 y.z 9 = 5 ∨ p17 y.z 9 = 6 ∨ p17 y.z 9 = 7 ∨ p17 y.z 9 = 8 := by omega
  unfold g26
  simp only [g17_ok _ (show (0 : Int) < 9 by omega), g17_ok _ (show (0 : Int) < 5 by omega)]
  rcases h9 with h | h | h | h | h | h | h | h | h <;> rw [h] <;> rfl

end Go.Ev.T
