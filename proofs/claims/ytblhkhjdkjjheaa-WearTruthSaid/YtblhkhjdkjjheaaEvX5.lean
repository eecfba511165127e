/- Add, either way, as one plain function (own work). -/
import Derived.Test.YtblhkhjdkjjheaaEvX4
import Derived.Test.YtblhkhjdkjjheaaEvLp
set_option linter.unusedVariables false
set_option linter.unusedSimpArgs false
set_option linter.unnecessarySimpa false
set_option linter.unusedSectionVars false
namespace Go.Ev.W.X
open Go Go.Ev Go.Ev.W Go.Proofs
set_option maxRecDepth 100000
theorem ls_id (x : List Ent) : lsE x.length (fun k => rE (gE x k)) = x := lsRows_enc (fun _ => rfl) x
theorem ok_id (x : List Ent) (n : Nat) : okEs n (fun k => rE (gE x k)) = true := okRows_enc (fun _ => rfl) n _
theorem gE_at {x : List Ent} {k : Nat} (h : k < x.length) : gE x k = x[k] := by
  show x.getD k _ = _
  rw [List.getD_eq_getElem?_getD, List.getElem?_eq_getElem h]
  rfl
theorem rows_all (x : List Ent) : mapL (fun k => rE (gE x k)) (List.range x.length) = mapL rE x := by
  rw [mapL_eq, mapL_eq]
  apply List.ext_getElem
  · simp
  · intro k h1 h2
    have h2 : k < x.length := by simpa using h2
    simp only [List.getElem_map, List.getElem_range, gE_at h2]
theorem rows_take (x : List Ent) {n : Nat} (h : n ≤ x.length) : mapL (fun k => rE (gE x k)) (List.range n) = mapL rE (x.take n) := by
  rw [mapL_eq, mapL_eq]
  apply List.ext_getElem
  · simp; omega
  · intro k h1 h2
    have h2 : k < n := by simp at h1; omega
    simp only [List.getElem_map, List.getElem_range, List.getElem_take, gE_at (show k < x.length by omega)]
theorem rows_drop (x : List Ent) (n : Nat) : mapL (fun k => rE (gE x (n + k))) (List.range (x.length - n)) = mapL rE (x.drop n) := by
  rw [mapL_eq, mapL_eq]
  apply List.ext_getElem
  · simp
  · intro k h1 h2
    have h2 : k < x.length - n := by simpa using h1
    simp only [List.getElem_map, List.getElem_range, List.getElem_drop, gE_at (show n + k < x.length by omega)]
theorem len_rows (x : List Ent) : len (mapL rE x) = x.length := len_mapL rE x
theorem rows_one (y : Ent) : [[i y.t, i y.o, i y.l, i y.h]] = mapL rE [y] := rfl
theorem app_nil' (l : List (List AVal)) : app [] l = l := rfl
theorem rows_app (x y : List Ent) : app (mapL rE x) (mapL rE y) = mapL rE (x ++ y) := app_mapL rE x y
theorem room_le {n : Nat} (h : n ≤ 1099511627776) : Nat.ble (n * 32) room = true := by
  rw [Nat.ble_eq]; unfold room; omega
/-! ### the result as lists -/
theorem leNil (c : Int) : LeRes (.tup [.v (.slice none 0 0), i c]) [] (.tup [eEL [], i c]) :=
  ⟨.tup [.v (.slice none 0 0), i c], rfl, ALe.tup rfl fun k x y hx hy => by
    match k with
    | 0 => cases hx; cases hy; exact fun ρ H F w v h => VRel.nilLe h
    | 1 => cases hx; cases hy; exact fun ρ H F w v h => h
    | k + 2 => cases hx⟩
theorem leOwn (l : List Ent) (c : Int) : LeRes (.tup [.sl 0 0 l.length 0, i c]) [⟨27, 4, mapL rE l, true, false, 0⟩] (.tup [eEL l, i c]) :=
  ⟨.tup [.tree 4 l.length fun k => getRow (mapL rE l) (0 + k), i c], rfl, ALe.tup rfl fun k x y hx hy => by
    match k with
    | 0 =>
      cases hx; cases hy
      exact fun ρ H F w v h => VRel.treeLe (fun k hk => by rw [Nat.zero_add]; exact (getRow_mapL rE _ hk).symm) h
    | 1 => cases hx; cases hy; exact fun ρ H F w v h => h
    | k + 2 => cases hx⟩
/-! ### Add -/
noncomputable def ins (l : List Ent) (u : Ent) : List Ent := l.take (ix l u) ++ u :: l.drop (ix l u)
noncomputable def add (l : List Ent) (u : Ent) : List Ent × Int :=
  sel (chk l != 0) ([], chk l) (sel (p30 u) ([], 3) (sel (hasK l (ix l u) u) (sel (decide (gE l (ix l u) = u)) (l, 0) ([], 6)) (sel (decide (l.length = 100)) ([], 2) (ins l u, 0))))
theorem hasK_lt {l : List Ent} {k : Nat} {u : Ent} (h : hasK l k u = true) : k < l.length := by
  unfold hasK at h
  rw [Bool.and_eq_true] at h
  exact of_decide_eq_true h.1
theorem add15 (x : List Ent) (y : Ent) (hb : x.length ≤ 1000000000) : p15u x y = sel ((add x y).2 != 0) ⟨1, (add x y).2, 0, []⟩ ⟨2, 0, (add x y).1.length, mapL rE (add x y).1⟩ := by
  have hg : gC x = true := decide_eq_true (by omega)
  have hl := ix_le x y
  have hd : (x.drop (ix x y)).length = x.length - ix x y := List.length_drop
  have ht : (x.take (ix x y)).length = ix x y := by simp; omega
  have hv : p30 y = !p32 y := valid_bad y
  have e100 : ((x.length : Int) == 100) = decide (x.length = 100) := by rw [Bool.eq_iff_iff]; simp; omega
  unfold p15u
  simp only [ls_id, ok_id, hg, pC, (find37 x y (by omega)).1, (find37 x y (by omega)).2, (has38 x (ix x y) y).1, (has38 x (ix x y) y).2, Int.toNat_natCast, rows_all, Nat.zero_add, Nat.sub_zero, rows_take x hl, rows_drop, rows_one, app_nil', rows_app, len_rows, ent_eq, e100]
  cases h1 : chk x != 0 with
  | true =>
    have ea : add x y = ([], chk x) := by unfold add; exact sel_l h1 rfl
    rw [ea]
    show _ = sel (chk x != 0) _ _
    rw [h1]
  | false =>
  cases h2 : p32 y with
  | false =>
    have ea : add x y = ([], 3) := by unfold add; exact sel_r h1 (sel_l (by rw [hv, h2]; rfl) rfl)
    rw [ea]
    rfl
  | true =>
  have h2' : p30 y = false := by rw [hv, h2]; rfl
  cases h3 : hasK x (ix x y) y with
  | true =>
    have hk := hasK_lt h3
    simp only [inB_nat hk]
    cases h4 : decide (gE x (ix x y) = y) with
    | false =>
      have ea : add x y = ([], 6) := by unfold add; exact sel_r h1 (sel_r h2' (sel_l h3 (sel_r h4 rfl)))
      rw [ea]
      rfl
    | true =>
      have ea : add x y = (x, 0) := by unfold add; exact sel_r h1 (sel_r h2' (sel_l h3 (sel_l h4 rfl)))
      have e0 : Nat.beq x.length 0 = false := by
        cases h : Nat.beq x.length 0 with
        | false => rfl
        | true => have := Nat.eq_of_beq_eq_true h; omega
      simp only [e0, room_le (show x.length ≤ 1099511627776 by omega), Bool.and_true, ea]
      rfl
  | false =>
    have e1 : inB (ix x y : Int) (x.length + 1) = true := inB_nat (by omega)
    cases h5 : decide (x.length = 100) with
    | true =>
      have ea : add x y = ([], 2) := by unfold add; exact sel_r h1 (sel_r h2' (sel_r h3 (sel_l h5 rfl)))
      rw [ea]
      rfl
    | false =>
      have ea : add x y = (ins x y, 0) := by unfold add; exact sel_r h1 (sel_r h2' (sel_r h3 (sel_r h5 rfl)))
      rw [ea]
      have b2 : Nat.ble ((1 + (x.drop (ix x y)).length) * 32) room = true := room_le (by omega)
      have b3 : Nat.ble (((x.take (ix x y)).length + 1 + (x.drop (ix x y)).length) * 32) room = true := room_le (by omega)
      have b4 : Nat.ble ((x.take (ix x y)).length * 32) room = true := room_le (by omega)
      have b5 : Nat.ble (((x.take (ix x y)).length + 1) * 32) room = true := room_le (by omega)
      have b6 : ∀ n : Nat, Nat.beq n n = true := Nat.beq_refl
      have e2 : (x.take (ix x y) ++ [y]).length = (x.take (ix x y)).length + 1 := by simp
      simp only [e1, b2, b3, b4, b5, b6, e2, Bool.and_true]
      unfold ins
      cases hz : Nat.beq (x.take (ix x y)).length 0 with
      | true =>
        have hz := List.length_eq_zero_iff.1 (Nat.eq_of_beq_eq_true hz)
        rw [hz]
        cases hw : Nat.beq (x.drop (ix x y)).length 0 with
        | true =>
          have hw := List.length_eq_zero_iff.1 (Nat.eq_of_beq_eq_true hw)
          rw [hw]
          rfl
        | false =>
          have e3 : ([] ++ y :: x.drop (ix x y)).length = 1 + (x.drop (ix x y)).length := by simp; omega
          rw [e3]
          rfl
      | false =>
        cases hw : Nat.beq (x.drop (ix x y)).length 0 with
        | true =>
          have hw := List.length_eq_zero_iff.1 (Nat.eq_of_beq_eq_true hw)
          rw [hw, e2]
          rfl
        | false =>
          have e3 : (x.take (ix x y) ++ y :: x.drop (ix x y)).length = (x.take (ix x y)).length + 1 + (x.drop (ix x y)).length := by simp; omega
          have e4 : x.take (ix x y) ++ y :: x.drop (ix x y) = x.take (ix x y) ++ [y] ++ x.drop (ix x y) := by simp
          rw [e3, e4]
          rfl
end Go.Ev.W.X
namespace Go.Ev.W.X
open Go Go.Ev Go.Ev.W Go.Proofs
set_option maxRecDepth 100000
end Go.Ev.W.X
namespace Go.Ev.W.X
open Go Go.Ev Go.Ev.W Go.Proofs
set_option maxRecDepth 100000
/-! ### the summaries -/
theorem add_nil {l : List Ent} {u : Ent} (h : ((add l u).2 != 0) = true) : (add l u).1 = [] := by
  revert h
  unfold add
  cases chk l != 0 with
  | true => exact fun _ => rfl
  | false =>
    cases p30 u with
    | true => exact fun _ => rfl
    | false =>
      cases hasK l (ix l u) u with
      | true =>
        cases decide (gE l (ix l u) = u) with
        | true => intro h; cases h
        | false => exact fun _ => rfl
      | false =>
        cases decide (l.length = 100) with
        | true => exact fun _ => rfl
        | false => intro h; cases h
noncomputable def pA (l : List Ent) (u : Ent) : List Ent × Int := add l u
noncomputable def gA (l : List Ent) (_ : Ent) : Bool := decide (l.length ≤ 1000000000)
noncomputable def kA (l : List Ent) (u : Ent) : DT (AVal × List ABlk) := .guard (gA l u) (.ret (.tup [eEL (pA l u).1, i (pA l u).2], []))
noncomputable def SA15 : Sum := sum2 cEL cN fun l u => .guard (gA l u) (.ret (.tup [eEL (pA l u).1, i (pA l u).2], []))
theorem guard_some {g : Bool} {x : AVal} {y : AVal} {out : List ABlk} (h : (DT.guard g (.ret (x, [])) : DT (AVal × List ABlk)).run = some (y, out)) : g = true ∧ y = x ∧ out = [] := by
  rw [run_grd] at h
  cases g with
  | false => cases h
  | true => cases h; exact ⟨rfl, rfl, rfl⟩
theorem bne_zero {c : Int} (h : (c != 0) = false) : c = 0 := by simpa using h
theorem okA15 : FnOk Try.prog G 15 SA15 := sum2_conv ok15u fun l u v out h => by
  obtain ⟨h1, rfl, rfl⟩ := guard_some h
  refine ⟨rfl, ?_⟩
  show ∃ x o, (ko15 (p15u l u)).run = some (x, o) ∧ _
  rw [add15 l u (of_decide_eq_true h1)]
  cases hc : (add l u).2 != 0 with
  | true => exact ⟨.tup [.v (.slice none 0 0), i (add l u).2], [], rfl, by unfold pA; rw [add_nil hc]; exact leNil _⟩
  | false => exact ⟨.tup [.sl 0 0 (add l u).1.length 0, i 0], [⟨27, 4, mapL rE (add l u).1, true, false, 0⟩], rfl, by unfold pA; rw [bne_zero hc]; exact leOwn _ _⟩
/-- ContainsFunc of an entry without numbers -/
noncomputable def p29t (l : List Ent) (_ : Unit) : Bool := l.any fun u => decide (u.l > u.h)
noncomputable def g29t (l : List Ent) (_ : Unit) : Bool := small l
noncomputable def S29t : Sum := sum2 cEL (cF 40) fun l k => .guard (g29t l k) (.ret (b (p29t l k), []))
theorem any46b (x : List Ent) (hb : x.length ≤ 4611686018427387904) : (p46bu ⟨x.length, fun k => rE (gE x k)⟩).alt = 1 ∧ decide ((p46bu ⟨x.length, fun k => rE (gE x k)⟩).is0 ≥ 0) = x.any fun u => decide (u.l > u.h) := by
  have l0 := lp_ff2 (step := st46b_0 ⟨x.length, fun k => rE (gE x k), (x.length : Int)⟩) (enc := fun j => ⟨(j : Int)⟩) (q := fun j => decide ((gE x j).l > (gE x j).h)) (n := x.length) (t1 := 1) (t2 := 2)
    (fun j hj => by
      simp only [st46b_0, su46b_0_0, dec_lt hj, inB_nat hj, W_next hj hb, Int.toNat_natCast]
      rfl)
    (by simp only [st46b_0, su46b_0_0, dec_nlt (Nat.le_refl _)]) 0 (by omega) hb
  have a0 := ff_list (p := fun u : Ent => decide (u.l > u.h)) (d := ⟨0, 0, 0, 0⟩) x (fun j => decide ((gE x j).l > (gE x j).h)) 0 fun k hk => by rw [Nat.zero_add]
  rw [Nat.zero_add, Nat.zero_add] at a0
  rw [Nat.sub_zero, a0.2] at l0
  have e0 : (⟨0⟩ : Sg46b_0) = ⟨((0 : Nat) : Int)⟩ := rfl
  simp only [p46bu, e0, l0]
  cases x.any fun u => decide (u.l > u.h) with
  | true => exact ⟨rfl, decide_eq_true (Int.natCast_nonneg _)⟩
  | false => exact ⟨rfl, rfl⟩
theorem ok29t : FnOk Try.prog G 29 S29t := sum2_ok ok29bu fun l k r h => by
  obtain ⟨h1, rfl⟩ := grd_some h
  obtain ⟨e1, e2⟩ := any46b l (by have := small_le h1; omega)
  show (ko29b ⟨l.length, fun k => rE (gE l k)⟩ (p29bu ⟨l.length, fun k => rE (gE l k)⟩)).run = _
  simp only [p29bu, e1, e2]
  rfl
end Go.Ev.W.X

