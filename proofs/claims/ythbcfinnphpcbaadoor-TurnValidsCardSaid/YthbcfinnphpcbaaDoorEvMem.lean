/- The operations that look at, make and write memory (own work). -/
import Derived.Test.YthbcfinnphpcbaaDoorEvOps
import Derived.Laws.CopyRow
import Derived.Laws.IdiomCopy
namespace Go.Ev
open Go
section
variable {W : Nat → Prop} {ρ : Rho} {H H' : List ABlk} {F : Fz} {w : World} {E : Env} {o : Oper} {a : List AVal} {ac : Act} {x : AVal}

theorem sizeT_of {P : Program} {t : TypeId} (h : szT P t ≠ 0) : ∃ i, P.info? t = some i ∧ i.size = szT P t := by
  unfold szT at *
  cases hi : P.info? t with
  | none => simp [hi] at h
  | some i => exact ⟨i, rfl, by simp⟩

theorem rangeMap {α : Type} {n : Nat} {f : Nat → α} {j : Nat} {v : α} (h : ((List.range n).map f)[j]? = some v) : j < n ∧ f j = v := by
  rw [List.getElem?_map] at h
  rcases Nat.lt_or_ge j n with hj | hj
  · rw [List.getElem?_range hj] at h; exact ⟨hj, by simpa using h⟩
  · rw [List.getElem?_eq_none (by simpa using hj)] at h; cases h
/-- a type that is read as a whole, or cell by cell -/
theorem isAgg_run {P : Program} {t : TypeId} (h : agT P t = true) (w : World) : (isAgg t).run P w = .ok true w := by
  unfold agT at h
  split at h
  · rename_i fs hu; simp [isAgg, run_underlying hu]
  · rename_i n e hu; simp [isAgg, run_underlying hu]
  · cases h
theorem isAgg_run' {P : Program} {t : TypeId} (h : agT P t = false) (hd : P.underlying t ≠ none) (w : World) : (isAgg t).run P w = .ok false w := by
  unfold agT at h
  cases hu : P.underlying t with
  | none => exact absurd hu hd
  | some d => cases d <;> simp [hu] at h <;> simp [isAgg, run_underlying hu]

theorem loadCells_rel (hH : HRel W ρ H F w) {p : AVal} {p' : Value} {n : Nat} {cs : List AVal} (hp : WRel ρ H F w p p') (he : Ev.loadCells H p n = some cs) :
    ∃ (ad : Addr) (vs : List Value), p' = .pointer (some ad) ∧ (0 < n → ad.spot = none) ∧ cs.length = n ∧ vs.length = n ∧ (∀ j v, vs[j]? = some v → w.cell? ⟨ad.block, ad.off + j, none⟩ = some v) ∧
      ∀ (j : Nat) x x', cs[j]? = some x → vs[j]? = some x' → MRel F w x x' := by
  revert he hp
  cases p with
  | ptr id i c g =>
    intro hp he
    simp only [Ev.loadCells] at he
    cases hbk : blkAt H id g with
    | none => simp [hbk] at he
    | some b =>
    obtain ⟨hb, hd, hg⟩ := blkAt_some hbk
    simp only [hbk, nth_eq] at he
    cases hr : b.elems[i]? with
    | none => simp [hr] at he
    | some cells =>
    simp only [hr, len_eq, takeN_eq, dropN_eq] at he
    cases hle : Nat.ble (c + n) cells.length with
    | false => simp [hle] at he
    | true =>
    simp only [hle] at he
    injection he with he
    have hle' : c + n ≤ cells.length := Nat.le_of_ble_eq_true hle
    obtain ⟨ad, b', e, hb', hd', hg', hh⟩ := inv_ptr hp
    have : b' = b := Option.some.inj (hb'.symm.trans hb)
    subst this
    have had := hh hg
    obtain ⟨cc, t, fr, hB⟩ := hH.blk id b' hb hd
    have hcell : ∀ j, j < n → ∃ x', cc[(ρ id).off + (i * b'.es + (c + j))]? = some x' ∧ ∀ x, cells[c + j]? = some x → MRel F w x x' := fun j hj => by
      have hlt : c + j < cells.length := by omega
      obtain ⟨x', h1, h2⟩ := hB.cell i cells (c + j) _ hr (List.getElem?_eq_getElem hlt)
      exact ⟨x', h1, fun x hx => by rw [List.getElem?_eq_getElem hlt] at hx; injection hx with hx; subst hx; exact h2⟩
    have hsz : ∀ j, j < n → (ρ id).off + (i * b'.es + (c + j)) < cc.size := fun j hj => by
      obtain ⟨x', h1, _⟩ := hcell j hj
      exact (Array.getElem?_eq_some_iff.1 h1).1
    refine ⟨ad, (List.range n).map fun j => cc.getD ((ρ id).off + (i * b'.es + (c + j))) undef, e, fun _ => by rw [had], ?_, by simp, fun j v hj => ?_, fun j x x' hx hx' => ?_⟩
    · rw [← he]; simp only [List.length_take, List.length_drop]; omega
    · obtain ⟨hj1, hj2⟩ := rangeMap hj
      have hlt := hsz j hj1
      rw [had]
      rw [show (ρ id).off + (i * b'.es + c) + j = (ρ id).off + (i * b'.es + (c + j)) by omega, hB.cellAt, ← hj2]
      simp [hlt]
    · obtain ⟨hj1, hj2⟩ := rangeMap hx'
      have hlt := hsz j hj1
      obtain ⟨x'', h1, h2⟩ := hcell j hj1
      rw [← he] at hx
      have hx0 : cells[c + j]? = some x := by
        rw [List.getElem?_take, if_pos hj1, List.getElem?_drop] at hx
        exact hx
      have := h2 x hx0
      rw [Array.getElem?_eq_getElem hlt] at h1
      injection h1 with h1
      rw [← hj2]
      simp [hlt, h1, this]
  | tptr l =>
    intro hp he
    simp only [Ev.loadCells, len_eq, takeN_eq] at he
    cases hle : Nat.ble n l.length with
    | false => simp [hle] at he
    | true =>
    simp only [hle] at he
    injection he with he
    have hle' : n ≤ l.length := Nat.le_of_ble_eq_true hle
    obtain ⟨ad, vs, e, hs, hF, hw, hr⟩ := inv_tptr hp
    refine ⟨ad, (List.range n).map vs, e, fun _ => hs, by rw [← he]; simp only [List.length_take]; omega, by simp, fun j v hj => ?_, fun j x x' hx hx' => ?_⟩
    · obtain ⟨hj1, hj2⟩ := rangeMap hj
      rw [hw j (by omega), hj2]
    · obtain ⟨hj1, hj2⟩ := rangeMap hx'
      rw [← he, List.getElem?_take] at hx
      simp only [hj1, if_true] at hx
      have hlt : j < l.length := by omega
      rw [List.getElem?_eq_getElem hlt] at hx
      injection hx with hx
      rw [← hx, ← hj2]
      exact hr j hlt
  | _ => intro _ he; cases he

theorem isCK_as {k : CK} {x : AVal} (h : isCK k x = true) : asCK k x = x ∨ ∃ es, k = .sl es ∧ x = .v (.slice none 0 0) := by
  unfold isCK at h
  split at h
  · simp only [decide_eq_true_eq] at h; subst h; exact .inl rfl
  · exact .inl rfl
  · have := Nat.eq_of_beq_eq_true h; subst this; exact .inl rfl
  · exact .inr ⟨_, rfl, rfl⟩
  · exact .inl rfl
  · cases h
theorem inv_nilS {ρ : Rho} {H : List ABlk} {x' : Value} (h : WRel ρ H F w (.v (.slice none 0 0)) x') : x' = .slice none 0 0 := inv_v h
theorem asCK_mem {k : CK} {y : AVal} {x' : Value} (h : isCK k y = true) (hy : MRel F w y x') : MRel F w (asCK k y) x' := by
  rcases isCK_as h with e | ⟨es, rfl, rfl⟩
  · rw [e]; exact hy
  · cases hy; exact .nil _ _
theorem asCK_cell {ρ : Rho} {H : List ABlk} {k : CK} {y : AVal} {x' : Value} (h : isCK k y = true) (hy : CRel ρ H F w y x') : CRel ρ H F w (asCK k y) x' := by
  rcases isCK_as h with e | ⟨es, rfl, rfl⟩
  · rw [e]; exact hy
  · have := inv_nilS (.val (.cell hy)); subst this; exact .mem (.nil _ _)
theorem asCKs_len : ∀ (ks : List CK) (cs : List AVal), (asCKs ks cs).length = ks.length
  | [], _ => rfl
  | k :: ks, cs => congrArg Nat.succ (asCKs_len ks (tlA cs))
theorem asCKs_get : ∀ (ks : List CK) (cs : List AVal), okCKs ks cs = true → ∀ (j : Nat) x, (asCKs ks cs)[j]? = some x → j < ks.length ∧ ∃ k y, isCK k y = true ∧ x = asCK k y ∧ (j < cs.length → cs[j]? = some y)
  | [], _, _, j, x, hx => by simp [asCKs] at hx
  | k :: ks, cs, h, j, x, hx => by
    have h : Bool.and (isCK k (hdA cs)) (okCKs ks (tlA cs)) = true := h
    have hx : (asCK k (hdA cs) :: asCKs ks (tlA cs))[j]? = some x := hx
    have h' : isCK k (hdA cs) = true ∧ okCKs ks (tlA cs) = true := by simpa using h
    cases j with
    | zero =>
      simp at hx
      refine ⟨by simp, k, hdA cs, h'.1, hx.symm, fun hc => ?_⟩
      cases cs with
      | nil => simp at hc
      | cons c r => rfl
    | succ j =>
      obtain ⟨h1, k', y, h2, h3, h4⟩ := asCKs_get ks (tlA cs) h'.2 j x (by simpa using hx)
      refine ⟨by simp; omega, k', y, h2, h3, fun hc => ?_⟩
      cases cs with
      | nil => simp at hc
      | cons c r => simp only [List.getElem?_cons_succ]; exact h4 (by simpa [tlA] using hc)
theorem cellsG_load {p : AVal} {n : Nat} {q : Bool × List AVal} (h : cellsG H p n = some q) (h1 : q.1 = true) : Ev.loadCells H p n = some (takeN q.2 n) ∧ n ≤ q.2.length := by
  revert h
  cases p with
  | ptr id i c g =>
    intro h
    simp only [cellsG] at h
    cases hb : blkAt H id g with
    | none => simp [hb] at h
    | some b =>
    simp only [hb] at h
    injection h with h
    subst h
    simp only [Bool.and_eq_true] at h1
    have hi : i < b.elems.length := by have := Nat.le_of_ble_eq_true h1.1; rw [len_eq] at this; exact this
    have hr : getRow b.elems i = b.elems[i] := by simp [getRow, nth_eq, List.getElem?_eq_getElem hi]
    have h2 := h1.2
    rw [hr] at h2 ⊢
    refine ⟨by simp only [Ev.loadCells, hb, nth_eq, List.getElem?_eq_getElem hi, h2], ?_⟩
    have := Nat.le_of_ble_eq_true h2
    rw [len_eq] at this
    rw [dropN_eq, List.length_drop]
    omega
  | tptr cs =>
    intro h
    injection h with h
    subst h
    have h1 : n.ble (len cs) = true := h1
    refine ⟨by simp only [Ev.loadCells]; rw [h1], ?_⟩
    have := Nat.le_of_ble_eq_true h1
    rwa [len_eq] at this
  | _ => intro h; cases h
theorem loadT_rel (hH : HRel W ρ H F w) {p : AVal} {p' : Value} {n : Nat} {ks : List CK} {q : Bool × List AVal} (hp : WRel ρ H F w p p') (he : cellsG H p n = some q) (hok : Bool.and q.1 (Bool.and (Nat.beq (len ks) n) (okCKs ks q.2)) = true) :
    ∃ (ad : Addr) (vs : List Value), p' = .pointer (some ad) ∧ (0 < n → ad.spot = none) ∧ (asCKs ks q.2).length = n ∧ vs.length = n ∧ (∀ j v, vs[j]? = some v → w.cell? ⟨ad.block, ad.off + j, none⟩ = some v) ∧
      ∀ (j : Nat) x x', (asCKs ks q.2)[j]? = some x → vs[j]? = some x' → MRel F w x x' := by
  simp only [Bool.and_eq_true] at hok
  obtain ⟨h1, h2, h3⟩ := hok
  obtain ⟨h4, h5⟩ := cellsG_load he h1
  have h2 := Nat.eq_of_beq_eq_true h2
  rw [len_eq] at h2
  obtain ⟨ad, vs, e, hs, hcl, hvl, hw, hr⟩ := loadCells_rel hH hp h4
  refine ⟨ad, vs, e, hs, by rw [asCKs_len, h2], hvl, hw, fun j x x' hx hx' => ?_⟩
  obtain ⟨hj, k, y, g1, rfl, g2⟩ := asCKs_get ks q.2 h3 j x hx
  refine asCK_mem g1 (hr j y x' ?_ hx')
  rw [takeN_eq, List.getElem?_take, if_pos (by omega)]
  exact g2 (by omega)

section
variable (hA : ARel ρ H F w a ac.tmps) (hH : HRel W ρ H F w) (hG : GOk E F w)
include hA hH hG

theorem sound_load {ks : List CK} {t : TypeId} {y : Operand} (ho : o.op = .load t y) (hu : E.P.underlying t ≠ none)
    (he : (evalOp E a H (.load ks (szT E.P t) (agT E.P t) (cArg y))).run = some (x, H')) : OpGives E.P o ac w (Post W ρ H F w x H') := by
  have hy := evalA_ok hA hG y
  simp only [evalOp] at he
  cases hl : cellsG H (evalA E a (cArg y)) (szT E.P t) with
  | none => rw [hl] at he; cases he
  | some q =>
  rw [hl] at he
  obtain ⟨hgd, he⟩ := DT.run_guard_some he
  obtain ⟨z, h1, h2⟩ := opt_run he
  injection h2 with e1 e2; subst e1 e2
  obtain ⟨ad, vs, e, hs, hcl, hvl, hw, hr⟩ := loadT_rel hH hy hl hgd
  generalize asCKs ks q.2 = cs at *
  have hti : ∃ i, E.P.info? t = some i ∧ i.size = szT E.P t := by
    cases hd : E.P.underlying t with
    | none => exact absurd hd hu
    | some d => exact szT_info hd
  obtain ⟨ti, hi1, hi2⟩ := hti
  rcases asType_ok h1 with ⟨hag, rfl⟩ | ⟨hag, z', rfl, rfl⟩
  · refine .value (x' := .agg vs.toArray) (w' := w) ?_ (.stay hH (.val (.agg cs vs.toArray (by simp [hcl, hvl]) fun i x x' hx hx' => .mem (hr i x x' hx (by simpa using hx')))))
    have hlc : (Go.loadCells ad (szT E.P t)).run E.P w = .ok vs.toArray w := by
      rw [← hvl]
      refine run_loadCells_list (P := E.P) w ad vs fun j v hj => ?_
      have hj' : j < szT E.P t := by rw [← hvl]; exact (List.getElem?_eq_some_iff.1 hj).1
      rw [add_spot (hs (by omega))]
      exact hw j v hj
    simp [execOp, ho, e, Instr.loadAt, Instr.sureAddr, loadVar, isAgg_run hag, sizeOf, typeInfo, hi1, hi2, hlc]
  · have h1 : szT E.P t = 1 := by simpa using hcl.symm
    have hv1 : vs.length = 1 := by omega
    obtain ⟨v, rfl⟩ : ∃ v, vs = [v] := by
      match vs, hv1 with
      | [v], _ => exact ⟨v, rfl⟩
    have hc := hw 0 v rfl
    have hsp := hs (by omega)
    have hcell : w.cell? ad = some v := by
      obtain ⟨b, of, sp⟩ := ad
      simp at hsp
      subst hsp
      simpa using hc
    refine .value (x' := v) (w' := w) ?_ (.stay hH (.val (.cell (.mem (hr 0 _ v rfl rfl)))))
    simp [execOp, ho, e, Instr.loadAt, Instr.sureAddr, loadVar, isAgg_run' hag hu, hcell]

end

/-- a slice seen as a part of memory that stays -/
theorem treeOf_ok (hH : HRel W ρ H F w) {id off n g : Nat} {b : ABlk} {y' : Value} {F' : Fz} (hbk : blkAt H id g = some b) (hy : WRel ρ H F w (.sl id off n g) y')
    (hmore : ∀ b o, F b o → F' b o) (hF' : ∀ o, o < b.elems.length * b.es → F' (ρ id).blk ((ρ id).off + o)) : MRel F' w (treeOf b off n) y' := by
  obtain ⟨hb, hd, hg⟩ := blkAt_some hbk
  obtain ⟨ad, cap, b', e, hb', hd', hg', hn, hspot, -, hh⟩ := inv_sl hy
  have : b' = b := Option.some.inj (hb'.symm.trans hb)
  subst this
  obtain ⟨h3, h4, h5⟩ := hh hg
  obtain ⟨cc, t, fr, hB⟩ := hH.blk id b' hb hd
  rw [e]
  rcases Nat.eq_zero_or_pos n with hn0 | hn0
  · subst hn0
    exact .tree b'.es 0 _ ad cap (fun _ _ => undef) (fun _ => hspot) hn (fun i hi => absurd hi (by omega)) (fun i c hi => absurd hi (by omega)) (fun i c hi => absurd hi (by omega)) (fun i c hi => absurd hi (by omega))
  · have had := h3.resolve_left (by omega)
    have hrow : ∀ i, i < n → ∃ r, b'.elems[off + i]? = some r ∧ getRow b'.elems (off + i) = r ∧ r.length = b'.es := fun i hi => by
      have hlt : off + i < b'.elems.length := by omega
      exact ⟨_, List.getElem?_eq_getElem hlt, by simp [getRow, nth_eq, List.getElem?_eq_getElem hlt], hB.rows _ _ (List.getElem?_eq_getElem hlt)⟩
    have hbound : ∀ i c, i < n → c < b'.es → (off + i) * b'.es + c < b'.elems.length * b'.es := fun i c hi hc => by
      have h1 : (off + i + 1) * b'.es ≤ b'.elems.length * b'.es := Nat.mul_le_mul_right _ (by omega)
      rw [Nat.add_mul] at h1
      omega
    have hoff : ∀ i c, (ρ id).off + off * b'.es + (i * b'.es + c) = (ρ id).off + ((off + i) * b'.es + c) := fun i c => by rw [Nat.add_mul off i]; omega
    refine .tree b'.es n _ ad cap (fun i c => cc.getD ((ρ id).off + ((off + i) * b'.es + c)) undef) (fun _ => by rw [had]) hn (fun i hi => ?_) (fun i c hi hc => ?_) (fun i c hi hc => ?_) (fun i c hi hc => ?_)
    · obtain ⟨r, h1, h2, h6⟩ := hrow i hi
      rw [h2]; exact h6
    · rw [had]; simp only; rw [hoff]; exact hF' _ (hbound i c hi hc)
    · rw [had]; simp only; rw [hoff, hB.cellAt]
      have := hB.room; have := hB.len; have := hbound i c hi hc
      have hlt : (ρ id).off + ((off + i) * b'.es + c) < cc.size := by omega
      simp [hlt]
    · obtain ⟨r, h1, h2, h6⟩ := hrow i hi
      have hc' : c < r.length := by rw [← h2]; exact hc
      obtain ⟨x', h7, h8⟩ := hB.cell (off + i) r c _ h1 (List.getElem?_eq_getElem hc')
      have hlt := (Array.getElem?_eq_some_iff.1 h7).1
      rw [Array.getElem?_eq_getElem hlt] at h7
      injection h7 with h7
      have e9 : cc.getD ((ρ id).off + ((off + i) * b'.es + c)) undef = x' := by simp [hlt, h7]
      have e10 : (getRow b'.elems (off + i))[c] = r[c] := by congr 1
      rw [e9, e10]
      exact h8.adv hmore (fun _ _ _ => rfl)

/-- cells on their way into memory -/
theorem freezeCell_ok (hH : HRel W ρ H F w) {y z : AVal} {y' : Value} (hy : CRel ρ H F w y y') (he : freezeCell H y = some (z, H')) :
    ∃ F', Adv W ρ H F w ρ H' F' w ∧ HRel W ρ H' F' w ∧ MRel F' w z y' ∧ H'.length = H.length := by
  revert he hy
  cases y with
  | v u =>
    intro hy he
    simp only [freezeCell] at he
    cases h1 : oneV u with
    | false => simp [h1] at he
    | true =>
    simp only [h1] at he
    injection he with he; injection he with e1 e2; subst e1 e2
    have := inv_v (.val (.cell hy))
    subst this
    exact ⟨F, .refl, hH, .v _ (by rw [← oneV_eq]; exact h1), rfl⟩
  | tree es n get =>
    intro hy he
    injection he with he; injection he with e1 e2; subst e1 e2
    exact ⟨F, .refl, hH, inv_tree (.val (.cell hy)), rfl⟩
  | fn f caps =>
    intro hy he
    cases caps with
    | cons => cases he
    | nil =>
      injection he with he; injection he with e1 e2; subst e1 e2
      cases hy with
      | mem h => exact ⟨F, .refl, hH, h, rfl⟩
  | sl id off n g =>
    intro hy he
    simp only [freezeCell] at he
    cases hbk : blkAt H id g with
    | none => simp [hbk] at he
    | some b =>
    obtain ⟨hb, hd, hg⟩ := blkAt_some hbk
    simp only [hbk] at he
    injection he with he; injection he with e1 e2
    have hdis : disown H id = H.set id { b with own := false } := by
      simp [disown, modAt, nth_eq, hb, setAt_eq]
    rw [hdis] at e2
    subst e1 e2
    obtain ⟨F', hadv, hH', hF'⟩ := hH.disown id b hb hd
    exact ⟨F', hadv, hH', treeOf_ok hH hbk (.val (.cell hy)) hadv.more hF', by simp⟩
  | _ => intro _ he; cases he

theorem freezeCells_ok (hH : HRel W ρ H F w) {ys zs : List AVal} {vs : List Value} (hl : ys.length = vs.length) (hy : ∀ (i : Nat) y y', ys[i]? = some y → vs[i]? = some y' → CRel ρ H F w y y') (he : freezeCells H ys = some (zs, H')) :
    ∃ F', Adv W ρ H F w ρ H' F' w ∧ HRel W ρ H' F' w ∧ zs.length = ys.length ∧ (∀ (i : Nat) z y', zs[i]? = some z → vs[i]? = some y' → MRel F' w z y') ∧ H'.length = H.length := by
  induction ys generalizing H F zs vs with
  | nil =>
    simp only [freezeCells] at he
    injection he with he; injection he with e1 e2; subst e1 e2
    exact ⟨F, .refl, hH, rfl, fun i z y' h => by simp at h, rfl⟩
  | cons y r ih =>
    cases vs with
    | nil => simp at hl
    | cons v vs =>
    simp only [freezeCells] at he
    cases h1 : freezeCell H y with
    | none => simp [h1] at he
    | some p =>
    obtain ⟨y1, H1⟩ := p
    simp only [h1] at he
    cases h2 : freezeCells H1 r with
    | none => simp [h2] at he
    | some q =>
    obtain ⟨l, H2⟩ := q
    simp only [h2] at he
    injection he with he; injection he with e1 e2; subst e1 e2
    obtain ⟨F1, a1, hH1, m1, l1⟩ := freezeCell_ok hH (hy 0 y v rfl rfl) h1
    obtain ⟨F2, a2, hH2, l2, m2, l3⟩ := ih hH1 (vs := vs) (by simpa using hl) (fun i x x' hx hx' => (hy (i + 1) x x' (by simpa using hx) (by simpa using hx')).adv a1) h2
    refine ⟨F2, a1.trans a2, hH2, by simp [l2], fun i z z' hz hz' => ?_, l3.trans l1⟩
    cases i with
    | zero =>
      simp at hz hz'
      subst hz hz'
      exact m1.adv a2.more a2.ext.cells
    | succ i => exact m2 i z z' (by simpa using hz) (by simpa using hz')

theorem cell_of_part {y : AVal} {y' : Value} (hy : WRel ρ H F w y y') (hp : partOk y = true) (hn : ∀ cs, y ≠ .agg cs) : CRel ρ H F w y y' ∧ y'.cells = #[y'] := by
  cases hy with
  | tup => cases hp
  | val h => cases h with
    | agg cs => exact absurd rfl (hn cs)
    | fn f caps vs hl h =>
      cases caps with
      | cons => cases hp
      | nil =>
        have : vs = #[] := by simpa using hl.symm
        subst this
        exact ⟨.mem (.fn f), rfl⟩
    | cell h =>
      refine ⟨h, ?_⟩
      have hv : ∀ x : Value, x.oneCell' = true → x.cells = #[x] := fun x hx => by cases x <;> first | rfl | cases hx
      cases h with
      | mem h => exact hv _ h.one
      | v => exact hv _ (by rw [← oneV_eq]; exact hp)
      | ptr => rfl
      | sl => rfl
      | tptr => rfl
      | unk => cases hp

/-- the cells of a value -/
theorem aCells_ok {y : AVal} {y' : Value} (hy : WRel ρ H F w y y') (hp : partOk y = true) :
    (aCells y).length = y'.cells.toList.length ∧ ∀ (i : Nat) z z', (aCells y)[i]? = some z → y'.cells.toList[i]? = some z' → CRel ρ H F w z z' := by
  by_cases hn : ∀ cs, y ≠ .agg cs
  · obtain ⟨h1, h2⟩ := cell_of_part hy hp hn
    have ha : aCells y = [y] := by
      cases y with
      | agg cs => exact absurd rfl (hn cs)
      | _ => rfl
    rw [ha, h2]
    refine ⟨rfl, fun i z z' hz hz' => ?_⟩
    cases i with
    | zero => simp at hz hz'; subst hz hz'; exact h1
    | succ i => simp at hz
  · have : ∃ cs, y = .agg cs := Classical.byContradiction fun h => hn fun cs e => h ⟨cs, e⟩
    obtain ⟨cs, rfl⟩ := this
    obtain ⟨vs, rfl, hl, h⟩ := inv_agg hy
    exact ⟨by simpa [aCells, Value.cells] using hl, fun i z z' hz hz' => h i z z' hz (by simpa [Value.cells] using hz')⟩

theorem freeze_part {y : AVal} {zs : List AVal} (he : freezeCells H (aCells y) = some (zs, H')) : partOk y = true := by
  cases y with
  | v u =>
    simp only [aCells, freezeCells, freezeCell] at he
    cases h1 : oneV u with
    | true => simpa [partOk] using h1
    | false => simp [h1] at he
  | tup => simp [aCells, freezeCells, freezeCell] at he
  | unk => simp [aCells, freezeCells, freezeCell] at he
  | fn f caps =>
    cases caps with
    | nil => rfl
    | cons => simp [aCells, freezeCells, freezeCell] at he
  | _ => rfl

theorem freezeVal_ok (hH : HRel W ρ H F w) {y : AVal} {y' : Value} {zs : List AVal} (hy : WRel ρ H F w y y') (he : freezeCells H (aCells y) = some (zs, H')) :
    ∃ F', Adv W ρ H F w ρ H' F' w ∧ HRel W ρ H' F' w ∧ zs.length = y'.cells.toList.length ∧ (∀ (i : Nat) z z', zs[i]? = some z → y'.cells.toList[i]? = some z' → MRel F' w z z') ∧ H'.length = H.length := by
  obtain ⟨h1, h2⟩ := aCells_ok hy (freeze_part he)
  obtain ⟨F', h3, h4, h5, h6, h7⟩ := freezeCells_ok hH h1 h2 he
  exact ⟨F', h3, h4, by rw [h5, h1], h6, h7⟩

theorem newBlk_eq (H : List ABlk) (et es : Nat) (elems : List (List AVal)) : newBlk H et es elems = H ++ [{ et, es, elems, own := true, dead := false, g := 0 }] := by
  simp [newBlk, app_eq]

/-- one new element, out of cells -/
theorem HRel.alloc1 (h : HRel W ρ H F w) (cs : List AVal) (vs : Array Value) (t : TypeId) (hl : cs.length = vs.toList.length) (hm : ∀ (i : Nat) z z', cs[i]? = some z → vs.toList[i]? = some z' → MRel F w z z') :
    Post W ρ H F w (.ptr H.length 0 0 0) (newBlk H 0 cs.length [cs]) (.pointer (some ⟨w.heap.size, 0, none⟩)) (w.alloc (.cells vs t)) := by
  have hl' : cs.length = vs.size := by simpa using hl
  obtain ⟨h1, h2⟩ := h.alloc 0 cs.length [cs] vs t (fun i r hr => by
      cases i with
      | zero => simp at hr; subst hr; rfl
      | succ i => simp at hr) (by simp [hl']) (fun i r c z hr hz => by
      cases i with
      | zero =>
        simp at hr; subst hr
        have hc : c < vs.size := hl' ▸ (List.getElem?_eq_some_iff.1 hz).1
        exact ⟨vs[c], by simp [hc], hm c z _ hz (by simp [hc])⟩
      | succ i => simp at hr) (fun h => absurd rfl h)
  rw [newBlk_eq]
  refine ⟨_, F, h1, h2, .val (.cell (.ptr _ _ _ _ _ { et := 0, es := cs.length, elems := [cs], own := true, dead := false, g := 0 } (by simp) rfl (Nat.le_refl _) fun _ => ?_))⟩
  simp [ρnew]

section
variable (hA : ARel ρ H F w a ac.tmps) (hH : HRel W ρ H F w) (hG : GOk E F w)
include hA hH hG

omit hA hG in
theorem sound_alloc {t : TypeId} {z : List AVal} (ho : o.op = .alloc t) (hz : zeT E.P t = some z) (he : (evalOp E a H (.alloc z)).run = some (x, H')) : OpGives E.P o ac w (Post W ρ H F w x H') := by
  have he' : some (AVal.ptr (len H) 0 0 0, newBlk H 0 (len z) [z]) = some (x, H') := he
  injection he' with he'; injection he' with e1 e2; subst e1 e2
  rw [len_eq, len_eq]
  unfold zeT at hz
  cases hi : E.P.info? t with
  | none => simp [hi] at hz
  | some i =>
  cases hzz : i.zero with
  | none => simp [hi, hzz] at hz
  | some zv =>
  simp only [hi, hzz] at hz
  split at hz
  · rename_i hall
    injection hz with hz
    subst hz
    refine .value (x' := .pointer (some ⟨w.heap.size, 0, none⟩)) (w' := w.alloc (.cells zv.cells t)) (by simp [execOp, ho, Instr.alloc, zeroValue, typeInfo, hi, hzz, newVar, newRow]) ?_
    refine HRel.alloc1 hH _ zv.cells t (by simp) fun i z z' h1 h2 => ?_
    rw [List.getElem?_map] at h1
    rw [h2] at h1
    simp at h1
    subst h1
    refine .v _ ?_
    rw [← oneV_eq]
    exact List.all_eq_true.1 hall z' (List.mem_of_getElem? h2)
  · cases hz

theorem sound_box {t : TypeId} {y : Operand} (ho : o.op = .box t y) (he : (evalOp E a H (.box (cArg y))).run = some (x, H')) : OpGives E.P o ac w (Post W ρ H F w x H') := by
  have hy := evalA_ok hA hG y
  simp only [evalOp] at he
  cases hf : freezeCells H (aCells (evalA E a (cArg y))) with
  | none => rw [hf] at he; cases he
  | some p =>
  obtain ⟨cs, H1⟩ := p
  rw [hf] at he
  have he' : some (AVal.ptr (len H1) 0 0 0, newBlk H1 0 (len cs) [cs]) = some (x, H') := he
  injection he' with he'; injection he' with e1 e2; subst e1 e2
  rw [len_eq, len_eq]
  obtain ⟨F1, a1, hH1, hl, hm, hlen⟩ := freezeVal_ok hH hy hf
  refine .value (x' := .pointer (some ⟨w.heap.size, 0, none⟩)) (w' := w.alloc (.cells (ac.eval y).cells t)) (by simp [execOp, ho, Instr.box, newVar, newRow]) ?_
  obtain ⟨ρ', F', h1, h2, h3⟩ := HRel.alloc1 hH1 cs (ac.eval y).cells t hl hm
  exact ⟨ρ', F', a1.trans h1, h2, h3⟩

omit hA hH hG in
theorem splice_get {l new : List AVal} {c k : Nat} {z : AVal} (hfit : c + new.length ≤ l.length) (h : (splice l c new)[k]? = some z) : (c ≤ k ∧ k < c + new.length ∧ new[k - c]? = some z) ∨ ((k < c ∨ c + new.length ≤ k) ∧ l[k]? = some z) := by
  unfold splice at h
  rw [app_eq, app_eq, takeN_eq, dropN_eq, len_eq] at h
  rcases Nat.lt_or_ge k c with hk | hk
  · rw [List.getElem?_append_left (by simp; omega), List.getElem?_take, if_pos hk] at h
    exact .inr ⟨.inl hk, h⟩
  · rw [List.getElem?_append_right (by simp; omega)] at h
    have e : k - (l.take c).length = k - c := by simp; omega
    rw [e] at h
    rcases Nat.lt_or_ge k (c + new.length) with hk2 | hk2
    · rw [List.getElem?_append_left (by omega)] at h
      exact .inl ⟨hk, hk2, h⟩
    · rw [List.getElem?_append_right (by omega), List.getElem?_drop] at h
      exact .inr ⟨.inr hk2, by rwa [show c + new.length + (k - c - new.length) = k by omega] at h⟩
omit hA hH hG in
theorem splice_length {l new : List AVal} {c : Nat} (hfit : c + new.length ≤ l.length) : (splice l c new).length = l.length := by
  unfold splice
  rw [app_eq, app_eq, takeN_eq, dropN_eq, len_eq]
  simp
  omega
omit hA hH hG in
theorem splice_arr {l : Array Value} {new : List Value} {c k : Nat} (hfit : c + new.length ≤ l.size) :
    ((l.toList.take c ++ new ++ l.toList.drop (c + new.length)).toArray)[k]? = if c ≤ k ∧ k < c + new.length then new[k - c]? else l[k]? := by
  simp only [List.getElem?_toArray]
  rcases Nat.lt_or_ge k c with hk | hk
  · rw [if_neg (by omega), List.append_assoc, List.getElem?_append_left (by simp; omega), List.getElem?_take, if_pos hk]
    simp
  · rcases Nat.lt_or_ge k (c + new.length) with hk2 | hk2
    · rw [if_pos ⟨hk, hk2⟩, List.append_assoc, List.getElem?_append_right (by simp; omega), List.getElem?_append_left (by simp; omega)]
      congr 1
      simp; omega
    · rw [if_neg (by omega), List.getElem?_append_right (by simp; omega), List.getElem?_drop]
      rw [show c + new.length + (k - (l.toList.take c ++ new).length) = k by simp; omega]
      simp

theorem sound_store {t : TypeId} {y z : Operand} (ho : o.op = .store t y z) (h0 : szT E.P t ≠ 0) (he : (evalOp E a H (.store (szT E.P t) (cArg y) (cArg z))).run = some (x, H')) : OpGives E.P o ac w (Post W ρ H F w x H') := by
  have hy := evalA_ok hA hG y
  have hz := evalA_ok hA hG z
  simp only [evalOp] at he
  revert he hy
  cases evalA E a (cArg y) with
  | ptr id i c g =>
    intro he hy
    cases hf : freezeCells H (aCells (evalA E a (cArg z))) with
    | none => simp [hf] at he
    | some p =>
    obtain ⟨cs, H1⟩ := p
    simp only [hf] at he
    cases hbk : blkAt H1 id g with
    | none => simp [hbk] at he
    | some b =>
    simp only [hbk] at he
    obtain ⟨hc, he⟩ := DT.run_guard_some he
    simp only [Bool.and_eq_true] at hc
    obtain ⟨⟨hown, hn⟩, hilt0, hfit⟩ := hc
    have hilt0 : i < b.elems.length := by have := Nat.le_of_ble_eq_true hilt0; rw [len_eq] at this; exact this
    have hr : b.elems[i]? = some (getRow b.elems i) := by simp [getRow, nth_eq, List.getElem?_eq_getElem hilt0]
    generalize getRow b.elems i = cells at *
    simp only [len_eq, setAt_eq] at he hn hfit
    have he' : some (AVal.v (.tuple #[]), H1.set id { b with elems := b.elems.set i (splice cells c cs) }) = some (x, H') := he
    injection he' with he'; injection he' with e1 e2; subst e1 e2
    have hn := Nat.eq_of_beq_eq_true hn
    have hfit : c + szT E.P t ≤ cells.length := Nat.le_of_ble_eq_true hfit
    rw [← hn] at hfit
    obtain ⟨F1, a1, hH1, hl, hm, hlen⟩ := freezeVal_ok hH hz hf
    obtain ⟨hb, hd, hg⟩ := blkAt_some hbk
    obtain ⟨ad, b', e, hb', hd', hg', hh⟩ := inv_ptr (hy.adv a1)
    have : b' = b := Option.some.inj (hb'.symm.trans hb)
    subst this
    have had := hh hg
    obtain ⟨cc, tt, fr, hB⟩ := hH1.blk id b' hb hd
    obtain ⟨hfr, hW, hoff, hsize, hnF, het⟩ := hB.own hown
    subst hfr
    have hrl := hB.rows i cells hr
    have hilt := (List.getElem?_eq_some_iff.1 hr).1
    have hbnd : i * b'.es + b'.es ≤ b'.elems.length * b'.es := by
      have := Nat.mul_le_mul_right b'.es (show i + 1 ≤ b'.elems.length from hilt)
      rwa [Nat.add_mul, Nat.one_mul] at this
    have hlenB := hB.len
    have hl2 : (ac.eval z).cells.toList.length = cs.length := hl.symm
    have hone : ∀ v ∈ (ac.eval z).cells.toList, v.oneCell' = true := fun v hv => by
      obtain ⟨k, hk, rfl⟩ := List.mem_iff_getElem.1 hv
      have hk' : k < cs.length := by omega
      exact (hm k _ _ (List.getElem?_eq_getElem hk') (List.getElem?_eq_getElem hk)).one
    have hfits : i * b'.es + c + (ac.eval z).cells.toList.length ≤ cc.size := by rw [hl2]; omega
    have hstore := run_storeCells_at (P := E.P) (ρ id).blk (i * b'.es + c) tt (ac.eval z).cells.toList 0 cc w hB.obj (by simpa using hfits) hone
    simp only [Nat.add_zero] at hstore
    obtain ⟨ti, hi1, hi2⟩ := sizeT_of h0
    have hsz0 : (ac.eval z).cells.size = ti.size := by rw [hi2, ← hn, ← hl2]; simp
    have had' : ad = ⟨(ρ id).blk, i * b'.es + c, none⟩ := by rw [had, hoff, Nat.zero_add]
    refine .skip (w' := w.setRow (ρ id).blk (cc.toList.take (i * b'.es + c) ++ (ac.eval z).cells.toList ++ cc.toList.drop (i * b'.es + c + (ac.eval z).cells.toList.length)).toArray) ?_ ?_
    · simp [execOp, ho, e, had', Instr.storeAt, Instr.sureAddr, storeVar, sizeOf, typeInfo, hi1, hsz0, hstore]
    · have hget : ∀ (i' : Nat) r, (b'.elems.set i (splice cells c cs))[i']? = some r → (i' = i ∧ r = splice cells c cs) ∨ (i' ≠ i ∧ b'.elems[i']? = some r) := fun i' r hr' => by
        by_cases e : i = i'
        · subst e; simp [hilt] at hr'; exact .inl ⟨rfl, hr'.symm⟩
        · rw [List.getElem?_set_ne e] at hr'; exact .inr ⟨fun h => e h.symm, hr'⟩
      obtain ⟨h3, h4⟩ := hH1.rewrite id b' { b' with elems := b'.elems.set i (splice cells c cs) } hb hd hown cc tt hB
        (cc.toList.take (i * b'.es + c) ++ (ac.eval z).cells.toList ++ cc.toList.drop (i * b'.es + c + (ac.eval z).cells.toList.length)).toArray
        (by simp at hfits ⊢; omega) rfl rfl hown hd (Nat.le_refl _) (fun _ => by simp) (by simpa using hlenB)
        (fun i' r hr' => by
          rcases hget i' r hr' with ⟨rfl, rfl⟩ | ⟨_, hr''⟩
          · rw [splice_length hfit]; exact hrl
          · exact hB.rows i' r hr'')
        (fun i' r k u hr' hu => by
          rw [splice_arr hfits]
          rcases hget i' r hr' with ⟨rfl, rfl⟩ | ⟨hne, hr''⟩
          · rcases splice_get hfit hu with ⟨h1, h2, h3⟩ | ⟨h1, h3⟩
            · rw [if_pos (by omega)]
              have hk : k - c < (ac.eval z).cells.toList.length := by omega
              refine ⟨(ac.eval z).cells.toList[k - c], ?_, hm (k - c) u _ h3 (List.getElem?_eq_getElem hk)⟩
              rw [show i' * b'.es + k - (i' * b'.es + c) = k - c by omega, List.getElem?_eq_getElem hk]
            · have hk := (List.getElem?_eq_some_iff.1 h3).1
              rw [if_neg (by omega)]
              have := hB.cell i' cells k u hr h3
              rwa [hoff, Nat.zero_add] at this
          · have hk : k < b'.es := by rw [← hB.rows i' r hr'']; exact (List.getElem?_eq_some_iff.1 hu).1
            have hnot : ¬ (i * b'.es + c ≤ i' * b'.es + k ∧ i' * b'.es + k < i * b'.es + c + (ac.eval z).cells.toList.length) := by
              rcases Nat.lt_or_ge i' i with hlt | hge
              · have := Nat.mul_le_mul_right b'.es (show i' + 1 ≤ i from hlt)
                rw [Nat.add_mul, Nat.one_mul] at this
                omega
              · have := Nat.mul_le_mul_right b'.es (show i + 1 ≤ i' by omega)
                rw [Nat.add_mul, Nat.one_mul] at this
                omega
            rw [if_neg hnot]
            have := hB.cell i' r k u hr'' hu
            rwa [hoff, Nat.zero_add] at this)
      exact ⟨ρ, F1, a1.trans h3, h4, .ofv _⟩
  | _ => intro he; cases he
end
end
end Go.Ev
