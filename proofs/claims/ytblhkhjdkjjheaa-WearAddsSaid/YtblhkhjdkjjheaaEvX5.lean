/- Add, either way, as one plain function (own work). -/
import Derived.Test.YtblhkhjdkjjheaaEvX4
import Derived.Test.YtblhkhjdkjjheaaEvLp
set_option linter.unusedVariables false
set_option linter.unusedSimpArgs false
set_option linter.unnecessarySimpa false
set_option linter.unusedSectionVars false
namespace Go.Ev.W.X
open Go Go.Ev Go.Ev.W Go.Proofs
set_option maxRecDepth 100000
theorem ls_id (x : List Ent) : lsE x.length (fun k => rE (gE x k)) = x := lsRows_enc (fun _ => rfl) x
theorem ok_id (x : List Ent) (n : Nat) : okEs n (fun k => rE (gE x k)) = true := okRows_enc (fun _ => rfl) n _
theorem gE_at {x : List Ent} {k : Nat} (h : k < x.length) : gE x k = x[k] := by
  show x.getD k _ = _
  rw [List.getD_eq_getElem?_getD, List.getElem?_eq_getElem h]
  rfl
theorem rows_all (x : List Ent) : mapL (fun k => rE (gE x k)) (List.range x.length) = mapL rE x := by
  rw [mapL_eq, mapL_eq]
  apply List.ext_getElem
  · simp
  · intro k h1 h2
    have h2 : k < x.length := by simpa using h2
    simp only [List.getElem_map, List.getElem_range, gE_at h2]
theorem rows_take (x : List Ent) {n : Nat} (h : n ≤ x.length) : mapL (fun k => rE (gE x k)) (List.range n) = mapL rE (x.take n) := by
  rw [mapL_eq, mapL_eq]
  apply List.ext_getElem
  · simp; omega
  · intro k h1 h2
    have h2 : k < n := by simp at h1; omega
    simp only [List.getElem_map, List.getElem_range, List.getElem_take, gE_at (show k < x.length by omega)]
theorem rows_drop (x : List Ent) (n : Nat) : mapL (fun k => rE (gE x (n + k))) (List.range (x.length - n)) = mapL rE (x.drop n) := by
  rw [mapL_eq, mapL_eq]
  apply List.ext_getElem
  · simp
  · intro k h1 h2
    have h2 : k < x.length - n := by simpa using h1
    simp only [List.getElem_map, List.getElem_range, List.getElem_drop, gE_at (show n + k < x.length by omega)]
theorem len_rows (x : List Ent) : len (mapL rE x) = x.length := len_mapL rE x
theorem rows_one (y : Ent) : [[i y.t, i y.o, i y.l, i y.h]] = mapL rE [y] := rfl
theorem app_nil' (l : List (List AVal)) : app [] l = l := rfl
theorem rows_app (x y : List Ent) : app (mapL rE x) (mapL rE y) = mapL rE (x ++ y) := app_mapL rE x y
theorem room_le {n : Nat} (h : n ≤ 1099511627776) : Nat.ble (n * 32) room = true := by
  rw [Nat.ble_eq]; unfold room; omega
/-! ### the result as lists -/
theorem leNil (c : Int) : LeRes (.tup [.v (.slice none 0 0), i c]) [] (.tup [eEL [], i c]) :=
  ⟨.tup [.v (.slice none 0 0), i c], rfl, ALe.tup rfl fun k x y hx hy => by
    match k with
    | 0 => cases hx; cases hy; exact fun ρ H F w v h => VRel.nilLe h
    | 1 => cases hx; cases hy; exact fun ρ H F w v h => h
    | k + 2 => cases hx⟩
theorem leOwn (l : List Ent) (c : Int) : LeRes (.tup [.sl 0 0 l.length 0, i c]) [⟨27, 4, mapL rE l, true, false, 0⟩] (.tup [eEL l, i c]) :=
  ⟨.tup [.tree 4 l.length fun k => getRow (mapL rE l) (0 + k), i c], rfl, ALe.tup rfl fun k x y hx hy => by
    match k with
    | 0 =>
      cases hx; cases hy
      exact fun ρ H F w v h => VRel.treeLe (fun k hk => by rw [Nat.zero_add]; exact (getRow_mapL rE _ hk).symm) h
    | 1 => cases hx; cases hy; exact fun ρ H F w v h => h
    | k + 2 => cases hx⟩
/-! ### Add -/
noncomputable def ins (l : List Ent) (u : Ent) : List Ent := l.take (ix l u) ++ u :: l.drop (ix l u)
noncomputable def add (l : List Ent) (u : Ent) : List Ent × Int :=
  sel (chk l != 0) ([], chk l) (sel (p30 u) ([], 3) (sel (hasK l (ix l u) u) (sel (decide (gE l (ix l u) = u)) (l, 0) ([], 6)) (sel (decide (l.length = 100)) ([], 2) (ins l u, 0))))
theorem hasK_lt {l : List Ent} {k : Nat} {u : Ent} (h : hasK l k u = true) : k < l.length := by
  unfold hasK at h
  rw [Bool.and_eq_true] at h
  exact of_decide_eq_true h.1
theorem add15 (x : List Ent) (y : Ent) (hb : x.length ≤ 1000000000) : p15u x y = sel ((add x y).2 != 0) ⟨1, (add x y).2, 0, []⟩ ⟨2, 0, (add x y).1.length, mapL rE (add x y).1⟩ := by
  have hg : gC x = true := decide_eq_true (by omega)
  have hl := ix_le x y
  have hd : (x.drop (ix x y)).length = x.length - ix x y := List.length_drop
  have ht : (x.take (ix x y)).length = ix x y := by simp; omega
  have hv : p30 y = !p32 y := valid_bad y
  have e100 : ((x.length : Int) == 100) = decide (x.length = 100) := by rw [Bool.eq_iff_iff]; simp; omega
  unfold p15u
  simp only [ls_id, ok_id, hg, pC, (find37 x y (by omega)).1, (find37 x y (by omega)).2, (has38 x (ix x y) y).1, (has38 x (ix x y) y).2, Int.toNat_natCast, rows_all, Nat.zero_add, Nat.sub_zero, rows_take x hl, rows_drop, rows_one, app_nil', rows_app, len_rows, ent_eq, e100]
  cases h1 : chk x != 0 with
  | true =>
    have ea : add x y = ([], chk x) := by unfold add; exact sel_l h1 rfl
    rw [ea]
    show _ = sel (chk x != 0) _ _
    rw [h1]
  | false =>
  cases h2 : p32 y with
  | false =>
    have ea : add x y = ([], 3) := by unfold add; exact sel_r h1 (sel_l (by rw [hv, h2]; rfl) rfl)
    rw [ea]
    rfl
  | true =>
  have h2' : p30 y = false := by rw [hv, h2]; rfl
  cases h3 : hasK x (ix x y) y with
  | true =>
    have hk := hasK_lt h3
    simp only [inB_nat hk]
    cases h4 : decide (gE x (ix x y) = y) with
    | false =>
      have ea : add x y = ([], 6) := by unfold add; exact sel_r h1 (sel_r h2' (sel_l h3 (sel_r h4 rfl)))
      rw [ea]
      rfl
    | true =>
      have ea : add x y = (x, 0) := by unfold add; exact sel_r h1 (sel_r h2' (sel_l h3 (sel_l h4 rfl)))
      have e0 : Nat.beq x.length 0 = false := by
        cases h : Nat.beq x.length 0 with
        | false => rfl
        | true => have := Nat.eq_of_beq_eq_true h; omega
      simp only [e0, room_le (show x.length ≤ 1099511627776 by omega), Bool.and_true, ea]
      rfl
  | false =>
    have e1 : inB (ix x y : Int) (x.length + 1) = true := inB_nat (by omega)
    cases h5 : decide (x.length = 100) with
    | true =>
      have ea : add x y = ([], 2) := by unfold add; exact sel_r h1 (sel_r h2' (sel_r h3 (sel_l h5 rfl)))
      rw [ea]
      rfl
    | false =>
      have ea : add x y = (ins x y, 0) := by unfold add; exact sel_r h1 (sel_r h2' (sel_r h3 (sel_r h5 rfl)))
      rw [ea]
      have b2 : Nat.ble ((1 + (x.drop (ix x y)).length) * 32) room = true := room_le (by omega)
      have b3 : Nat.ble (((x.take (ix x y)).length + 1 + (x.drop (ix x y)).length) * 32) room = true := room_le (by omega)
      have b4 : Nat.ble ((x.take (ix x y)).length * 32) room = true := room_le (by omega)
      have b5 : Nat.ble (((x.take (ix x y)).length + 1) * 32) room = true := room_le (by omega)
      have b6 : ∀ n : Nat, Nat.beq n n = true := Nat.beq_refl
      have e2 : (x.take (ix x y) ++ [y]).length = (x.take (ix x y)).length + 1 := by simp
      simp only [e1, b2, b3, b4, b5, b6, e2, Bool.and_true]
      unfold ins
      cases hz : Nat.beq (x.take (ix x y)).length 0 with
      | true =>
        have hz := List.length_eq_zero_iff.1 (Nat.eq_of_beq_eq_true hz)
        rw [hz]
        cases hw : Nat.beq (x.drop (ix x y)).length 0 with
        | true =>
          have hw := List.length_eq_zero_iff.1 (Nat.eq_of_beq_eq_true hw)
          rw [hw]
          rfl
        | false =>
          have e3 : ([] ++ y :: x.drop (ix x y)).length = 1 + (x.drop (ix x y)).length := by simp; omega
          rw [e3]
          rfl
      | false =>
        cases hw : Nat.beq (x.drop (ix x y)).length 0 with
        | true =>
          have hw := List.length_eq_zero_iff.1 (Nat.eq_of_beq_eq_true hw)
          rw [hw, e2]
          rfl
        | false =>
          have e3 : (x.take (ix x y) ++ y :: x.drop (ix x y)).length = (x.take (ix x y)).length + 1 + (x.drop (ix x y)).length := by simp; omega
          have e4 : x.take (ix x y) ++ y :: x.drop (ix x y) = x.take (ix x y) ++ [y] ++ x.drop (ix x y) := by simp
          rw [e3, e4]
          rfl
end Go.Ev.W.X
namespace Go.Ev.W.X
open Go Go.Ev Go.Ev.W Go.Proofs
set_option maxRecDepth 100000
theorem chk_srt {l : List Ent} (h : (chk l != 0) = false) : srt l = true ∧ l.length ≤ 100 ∧ l.any p30 = false := by
  unfold chk at h
  cases h1 : decide (100 < l.length) with
  | true => rw [h1] at h; cases h
  | false =>
    have := of_decide_eq_false h1
    rw [h1] at h
    cases h2 : l.any p30 with
    | true => rw [h2] at h; cases h
    | false =>
      rw [h2] at h
      cases h3 : srt l with
      | true => exact ⟨rfl, by omega, rfl⟩
      | false => rw [h3] at h; cases h
theorem takeN_rows (x : List Ent) (n : Nat) : takeN (mapL rE x) n = mapL rE (x.take n) := by rw [takeN_eq, mapL_eq, mapL_eq, List.map_take]
theorem dropN_rows (x : List Ent) (n : Nat) : dropN (mapL rE x) n = mapL rE (x.drop n) := by rw [dropN_eq, mapL_eq, mapL_eq, List.map_drop]
theorem add14c (x : Ent × List Ent) (y : Ent) (hb : (x.1 :: x.2).length ≤ 1000000000) :
    p14cu x y = sel ((add (x.1 :: x.2) y).2 != 0) ⟨1, (add (x.1 :: x.2) y).2, 0, []⟩ ⟨2, 0, (add (x.1 :: x.2) y).1.length, mapL rE (add (x.1 :: x.2) y).1⟩ := by
  have hlen : x.2.length + 1 = (x.1 :: x.2).length := rfl
  unfold p14cu
  rw [hlen]
  generalize x.1 :: x.2 = l at *
  have hg : gC l = true := decide_eq_true (by omega)
  have hl := ix_le l y
  have hd : (l.drop (ix l y)).length = l.length - ix l y := List.length_drop
  have ht : (l.take (ix l y)).length = ix l y := by simp; omega
  have e100 : ((l.length : Int) == 100) = decide (l.length = 100) := by rw [Bool.eq_iff_iff]; simp; omega
  have e0 : Nat.beq l.length 0 = false := by
    cases h : Nat.beq l.length 0 with
    | false => rfl
    | true => have := Nat.eq_of_beq_eq_true h; omega
  simp only [ls_id, ok_id, hg, pC, p34t, Int.toNat_natCast, rows_all, Nat.zero_add, rows_one, app_nil', rows_app, len_rows, ent_eq, e100, e0]
  cases h1 : chk l != 0 with
  | true =>
    have ea : add l y = ([], chk l) := by unfold add; exact sel_l h1 rfl
    rw [ea]
    show _ = sel (chk l != 0) _ _
    rw [h1]
  | false =>
  have hs := (chk_srt h1).1
  have hg4 : g34t l y () = true := by
    unfold g34t
    rw [hs, show small l = true from decide_eq_true (by omega)]
    rfl
  rw [hg4]
  cases h2 : p30 y with
  | true =>
    have ea : add l y = ([], 3) := by unfold add; exact sel_r h1 (sel_l h2 rfl)
    rw [ea]
    rfl
  | false =>
  cases h3 : hasK l (ix l y) y with
  | true =>
    have hk := hasK_lt h3
    simp only [inB_nat hk]
    cases h4 : decide (gE l (ix l y) = y) with
    | false =>
      have ea : add l y = ([], 6) := by unfold add; exact sel_r h1 (sel_r h2 (sel_l h3 (sel_r h4 rfl)))
      rw [ea]
      rfl
    | true =>
      have ea : add l y = (l, 0) := by unfold add; exact sel_r h1 (sel_r h2 (sel_l h3 (sel_l h4 rfl)))
      simp only [room_le (show l.length ≤ 1099511627776 by omega), Bool.and_true, ea]
      rfl
  | false =>
    cases h5 : decide (l.length = 100) with
    | true =>
      have ea : add l y = ([], 2) := by unfold add; exact sel_r h1 (sel_r h2 (sel_r h3 (sel_l h5 rfl)))
      rw [ea]
      rfl
    | false =>
      have ea : add l y = (ins l y, 0) := by unfold add; exact sel_r h1 (sel_r h2 (sel_r h3 (sel_r h5 rfl)))
      rw [ea]
      have b4 : Nat.ble (l.length * 32) room = true := room_le (by omega)
      have b5 : Nat.ble ((l.length + 1) * 32) room = true := room_le (by omega)
      have b6 : ∀ n : Nat, Nat.beq n n = true := Nat.beq_refl
      have e1 : inB (ix l y : Int) (l.length + 1) = true := inB_nat (by omega)
      simp only [b4, b5, b6, e1, Bool.and_true]
      cases h6 : ((ix l y : Int) == (l.length : Int)) with
      | true =>
        have h7 : ix l y = l.length := by have := beq_iff_eq.1 h6; omega
        have e : ins l y = l ++ [y] := by unfold ins; rw [h7, List.take_length, List.drop_length]
        rw [e, show (l ++ [y]).length = l.length + 1 by simp]
        rfl
      | false =>
        have h7 : ix l y < l.length := by have := beq_eq_false_iff_ne.1 h6; omega
        have hgi : gIns ⟨l.length, (ix l y : Int), 1, mapL rE l, fun k => getRow (mapL rE [y]) k⟩ = true := by
          unfold gIns
          simp only [len_rows, inB_nat h7, b5, b6]
          rfl
        simp only [hgi, takeN_rows, dropN_rows]
        have e3 : (ins l y).length = l.length + 1 := by unfold ins; simp; omega
        have e4 : mapL rE (ins l y) = app (mapL rE (l.take (ix l y))) (rE y :: mapL rE (l.drop (ix l y))) := by unfold ins; rw [← rows_app]; rfl
        rw [e3, e4]
        rfl
theorem add14n (y : Ent) : p14nu () y = sel ((add [] y).2 != 0) ⟨1, (add [] y).2, 0, 0, 0, 0⟩ ⟨2, 0, y.t, y.o, y.l, y.h⟩ ∧ ((add [] y).2 = 0 → (add [] y).1 = [y]) := by
  unfold p14nu
  cases h2 : p30 y with
  | true =>
    have ea : add [] y = ([], 3) := by unfold add; exact sel_r rfl (sel_l h2 rfl)
    rw [ea]
    exact ⟨rfl, fun h => by cases h⟩
  | false =>
    have ea : add [] y = ([y], 0) := by unfold add; exact sel_r rfl (sel_r h2 rfl)
    rw [ea]
    exact ⟨rfl, fun h => rfl⟩
theorem add14e (x : Addr × Nat) (y : Ent) : p14eu x y = sel ((add [] y).2 != 0) ⟨1, (add [] y).2, 0, []⟩ ⟨2, 0, (add [] y).1.length, mapL rE (add [] y).1⟩ := by
  unfold p14eu
  cases h2 : p30 y with
  | true =>
    have ea : add [] y = ([], 3) := by unfold add; exact sel_r rfl (sel_l h2 rfl)
    rw [ea]
    rfl
  | false =>
    have ea : add [] y = ([y], 0) := by unfold add; exact sel_r rfl (sel_r h2 rfl)
    rw [ea]
    rfl
end Go.Ev.W.X
namespace Go.Ev.W.X
open Go Go.Ev Go.Ev.W Go.Proofs
set_option maxRecDepth 100000
theorem split14 {k : List Ent → Ent → DT (AVal × List ABlk)} {f : Nat} (hA : FnOk Try.prog G f (sum2 cCL cN fun z u => k (z.1 :: z.2) u)) (hN : FnOk Try.prog G f (sum2 cNil cN fun _ u => k [] u)) (hE : FnOk Try.prog G f (sum2 cE0 cN fun _ u => k [] u)) :
    FnOk Try.prog G f (sum2 cEL cN k) := by
  intro args blks r out he W ρ F w args' hH hlen hargs hG
  unfold sum2 at he
  split at he
  · rename_i x y
    obtain ⟨a, h1, he⟩ := onO_some he
    obtain ⟨u, h2, he⟩ := onO_some he
    obtain ⟨g1, he⟩ := DT.run_guard_some he
    obtain ⟨g2, hk⟩ := DT.run_guard_some he
    have nilCase : ∀ v', args'[0]? = some v' → v' = .slice none 0 0 → a = [] → Callable Try.prog f ∧ Calls Try.prog f args'.toArray w fun e w' => ∃ r', e = .returned r' ∧ Post W ρ [] F w r out r' w' := fun v' hv e ha => by
      subst ha
      obtain ⟨z, hz, _⟩ := exactCod_dec (fun _ : Unit => AVal.v (.slice none 0 0)) ()
      refine hN [.v (.slice none 0 0), y] [] r out ?_ W ρ F w args' hH hlen (fun i x' y' hx hy => ?_) hG
      · simp only [sum2, cNil, hz, h2, onO, g2]
        exact hk
      · match i with
        | 0 => cases hx; rw [hv] at hy; cases hy; rw [e]; exact .val (.cell (.v _))
        | 1 => exact hargs 1 x' y' hx hy
        | i + 2 => cases hx
    have emptyCase : ∀ v' ad c, args'[0]? = some v' → v' = .slice (some ad) 0 c → a = [] → Callable Try.prog f ∧ Calls Try.prog f args'.toArray w fun e w' => ∃ r', e = .returned r' ∧ Post W ρ [] F w r out r' w' := fun v' ad c hv e ha => by
      subst ha
      obtain ⟨z, hz, _⟩ := exactCod_dec (fun z : Addr × Nat => AVal.v (.slice (some z.1) 0 z.2)) (ad, c)
      refine hE [.v (.slice (some ad) 0 c), y] [] r out ?_ W ρ F w args' hH hlen (fun i x' y' hx hy => ?_) hG
      · have hz : cE0.dec (.v (.slice (some ad) 0 c)) = some z := hz
        simp only [sum2, hz, h2, onO, g2]
        exact hk
      · match i with
        | 0 => cases hx; rw [hv] at hy; cases hy; rw [e]; exact .val (.cell (.v _))
        | 1 => exact hargs 1 x' y' hx hy
        | i + 2 => cases hx
    obtain ⟨v', hv⟩ : ∃ v', args'[0]? = some v' := by
      cases args' with
      | nil => simp at hlen
      | cons v' r' => exact ⟨v', rfl⟩
    cases x with
    | tree e n get =>
      cases n with
      | zero =>
        have ha : a = [] := by
          cases hb : Nat.beq e 4 with
          | false =>
            have h1 : (Bool.rec none (some (lsRows dRE 0 get)) (Nat.beq e 4) : Option (List Ent)) = some a := h1
            rw [hb] at h1; cases h1
          | true =>
            have h1 : (Bool.rec none (some (lsRows dRE 0 get)) (Nat.beq e 4) : Option (List Ent)) = some a := h1
            rw [hb] at h1
            have h1 : some (lsRows dRE 0 get) = some a := h1
            injection h1 with h1
            rw [← h1]; rfl
        have hm := inv_tree (hargs 0 _ v' rfl hv)
        cases hm with
        | tree _ _ _ ad cap cs hs hcap hes hF hw hr => exact emptyCase _ ad cap hv rfl ha
        | nil => exact nilCase _ hv rfl ha
      | succ m =>
        have ha : a.length = m + 1 := by
          cases hb : Nat.beq e 4 with
          | false =>
            have h1 : (Bool.rec none (some (lsRows dRE (m + 1) get)) (Nat.beq e 4) : Option (List Ent)) = some a := h1
            rw [hb] at h1; cases h1
          | true =>
            have h1 : (Bool.rec none (some (lsRows dRE (m + 1) get)) (Nat.beq e 4) : Option (List Ent)) = some a := h1
            rw [hb] at h1
            have h1 : some (lsRows dRE (m + 1) get) = some a := h1
            injection h1 with h1
            rw [← h1]; exact lsRows_len _ _ _
        cases a with
        | nil => cases ha
        | cons a0 l =>
          refine hA [.tree e (m + 1) get, y] [] r out ?_ W ρ F w args' hH hlen hargs hG
          have hc : cCL.dec (.tree e (m + 1) get) = some (a0, l) := by
            show (match cEL.dec (.tree e (m + 1) get) with | some (a :: l) => some (a, l) | _ => none) = _
            rw [h1]
          have hg : cCL.grd (.tree e (m + 1) get) = true := g1
          simp only [sum2, hc, h2, onO, hg, g2]
          exact hk
    | v q =>
      have hq := inv_v (hargs 0 _ v' rfl hv)
      unfold cEL listCod at h1
      simp only at h1
      split at h1
      · rename_i heq; cases heq
      · rename_i heq
        injection heq with heq
        injection h1 with h1
        exact nilCase v' hv (hq.trans heq) h1.symm
      · rename_i ad c heq
        injection heq with heq
        injection h1 with h1
        exact emptyCase v' _ _ hv (hq.trans heq) h1.symm
      · cases h1
    | _ => cases h1
  · cases he
/-! ### the summaries -/
theorem add_nil {l : List Ent} {u : Ent} (h : ((add l u).2 != 0) = true) : (add l u).1 = [] := by
  revert h
  unfold add
  cases chk l != 0 with
  | true => exact fun _ => rfl
  | false =>
    cases p30 u with
    | true => exact fun _ => rfl
    | false =>
      cases hasK l (ix l u) u with
      | true =>
        cases decide (gE l (ix l u) = u) with
        | true => intro h; cases h
        | false => exact fun _ => rfl
      | false =>
        cases decide (l.length = 100) with
        | true => exact fun _ => rfl
        | false => intro h; cases h
noncomputable def pA (l : List Ent) (u : Ent) : List Ent × Int := add l u
noncomputable def gA (l : List Ent) (_ : Ent) : Bool := decide (l.length ≤ 1000000000)
noncomputable def kA (l : List Ent) (u : Ent) : DT (AVal × List ABlk) := .guard (gA l u) (.ret (.tup [eEL (pA l u).1, i (pA l u).2], []))
noncomputable def SA15 : Sum := sum2 cEL cN fun l u => .guard (gA l u) (.ret (.tup [eEL (pA l u).1, i (pA l u).2], []))
@[reducible] noncomputable def SA14 : Sum := SA15
theorem guard_some {g : Bool} {x : AVal} {y : AVal} {out : List ABlk} (h : (DT.guard g (.ret (x, [])) : DT (AVal × List ABlk)).run = some (y, out)) : g = true ∧ y = x ∧ out = [] := by
  rw [run_grd] at h
  cases g with
  | false => cases h
  | true => cases h; exact ⟨rfl, rfl, rfl⟩
theorem bne_zero {c : Int} (h : (c != 0) = false) : c = 0 := by simpa using h
theorem okA15 : FnOk Try.prog G 15 SA15 := sum2_conv ok15u fun l u v out h => by
  obtain ⟨h1, rfl, rfl⟩ := guard_some h
  refine ⟨rfl, ?_⟩
  show ∃ x o, (ko15 (p15u l u)).run = some (x, o) ∧ _
  rw [add15 l u (of_decide_eq_true h1)]
  cases hc : (add l u).2 != 0 with
  | true => exact ⟨.tup [.v (.slice none 0 0), i (add l u).2], [], rfl, by unfold pA; rw [add_nil hc]; exact leNil _⟩
  | false => exact ⟨.tup [.sl 0 0 (add l u).1.length 0, i 0], [⟨27, 4, mapL rE (add l u).1, true, false, 0⟩], rfl, by unfold pA; rw [bne_zero hc]; exact leOwn _ _⟩
theorem okA14 : FnOk Try.prog G 14 SA14 := split14
  (sum2_conv ok14cu fun z u v out h => by
    obtain ⟨h1, rfl, rfl⟩ := guard_some h
    refine ⟨rfl, ?_⟩
    show ∃ x o, (ko14c (p14cu z u)).run = some (x, o) ∧ _
    rw [add14c z u (of_decide_eq_true h1)]
    cases hc : (add (z.1 :: z.2) u).2 != 0 with
    | true => exact ⟨.tup [.v (.slice none 0 0), i (add (z.1 :: z.2) u).2], [], rfl, by unfold pA; rw [add_nil hc]; exact leNil _⟩
    | false => exact ⟨.tup [.sl 0 0 (add (z.1 :: z.2) u).1.length 0, i 0], [⟨27, 4, mapL rE (add (z.1 :: z.2) u).1, true, false, 0⟩], rfl, by unfold pA; rw [bne_zero hc]; exact leOwn _ _⟩)
  (sum2_conv ok14nu fun z u v out h => by
    obtain ⟨h1, rfl, rfl⟩ := guard_some h
    refine ⟨rfl, ?_⟩
    show ∃ x o, (ko14n (p14nu () u)).run = some (x, o) ∧ _
    rw [(add14n u).1]
    cases hc : (add [] u).2 != 0 with
    | true => exact ⟨.tup [.v (.slice none 0 0), i (add [] u).2], [], rfl, by unfold pA; rw [add_nil hc]; exact leNil _⟩
    | false => exact ⟨.tup [.sl 0 0 1 0, i 0], [⟨27, 4, mapL rE [u], true, false, 0⟩], rfl, by unfold pA; rw [(add14n u).2 (bne_zero hc), bne_zero hc]; exact leOwn [u] 0⟩)
  (sum2_conv ok14eu fun z u v out h => by
    obtain ⟨h1, rfl, rfl⟩ := guard_some h
    refine ⟨rfl, ?_⟩
    show ∃ x o, (ko14e (p14eu z u)).run = some (x, o) ∧ _
    rw [add14e z u]
    cases hc : (add [] u).2 != 0 with
    | true => exact ⟨.tup [.v (.slice none 0 0), i (add [] u).2], [], rfl, by unfold pA; rw [add_nil hc]; exact leNil _⟩
    | false => exact ⟨.tup [.sl 0 0 (add [] u).1.length 0, i 0], [⟨27, 4, mapL rE (add [] u).1, true, false, 0⟩], rfl, by unfold pA; rw [bne_zero hc]; exact leOwn _ _⟩)
/-- ContainsFunc of an entry without numbers -/
noncomputable def p29t (l : List Ent) (_ : Unit) : Bool := l.any fun u => decide (u.l > u.h)
noncomputable def g29t (l : List Ent) (_ : Unit) : Bool := small l
noncomputable def S29t : Sum := sum2 cEL (cF 40) fun l k => .guard (g29t l k) (.ret (b (p29t l k), []))
theorem any46b (x : List Ent) (hb : x.length ≤ 4611686018427387904) : (p46bu ⟨x.length, fun k => rE (gE x k)⟩).alt = 1 ∧ decide ((p46bu ⟨x.length, fun k => rE (gE x k)⟩).is0 ≥ 0) = x.any fun u => decide (u.l > u.h) := by
  have l0 := lp_ff2 (step := st46b_0 ⟨x.length, fun k => rE (gE x k), (x.length : Int)⟩) (enc := fun j => ⟨(j : Int)⟩) (q := fun j => decide ((gE x j).l > (gE x j).h)) (n := x.length) (t1 := 1) (t2 := 2)
    (fun j hj => by
      simp only [st46b_0, su46b_0_0, dec_lt hj, inB_nat hj, W_next hj hb, Int.toNat_natCast]
      rfl)
    (by simp only [st46b_0, su46b_0_0, dec_nlt (Nat.le_refl _)]) 0 (by omega) hb
  have a0 := ff_list (p := fun u : Ent => decide (u.l > u.h)) (d := ⟨0, 0, 0, 0⟩) x (fun j => decide ((gE x j).l > (gE x j).h)) 0 fun k hk => by rw [Nat.zero_add]
  rw [Nat.zero_add, Nat.zero_add] at a0
  rw [Nat.sub_zero, a0.2] at l0
  have e0 : (⟨0⟩ : Sg46b_0) = ⟨((0 : Nat) : Int)⟩ := rfl
  simp only [p46bu, e0, l0]
  cases x.any fun u => decide (u.l > u.h) with
  | true => exact ⟨rfl, decide_eq_true (Int.natCast_nonneg _)⟩
  | false => exact ⟨rfl, rfl⟩
theorem ok29t : FnOk Try.prog G 29 S29t := sum2_ok ok29bu fun l k r h => by
  obtain ⟨h1, rfl⟩ := grd_some h
  obtain ⟨e1, e2⟩ := any46b l (by have := small_le h1; omega)
  show (ko29b ⟨l.length, fun k => rE (gE l k)⟩ (p29bu ⟨l.length, fun k => rE (gE l k)⟩)).run = _
  simp only [p29bu, e1, e2]
  rfl
end Go.Ev.W.X
