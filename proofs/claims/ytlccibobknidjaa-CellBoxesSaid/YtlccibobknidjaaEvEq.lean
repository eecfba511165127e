/- Own work: a part of the proof. -/
import Derived.Test.YtlccibobknidjaaEvOps
import Derived.Laws.CopyRow
import Derived.Laws.IdiomCopy
import Derived.Maps.AppendAt
import Derived.Laws.StructEq
import Derived.ChangeKeysEq
set_option linter.unusedVariables false
set_option linter.unusedSimpArgs false
set_option linter.unnecessarySimpa false
set_option linter.unusedSectionVars false
namespace Go.Ev
open Go
section
variable {W : Nat → Prop} {ρ : Rho} {H H' : List a8} {F : Fz} {w : World} {E : Env} {o : Oper} {a : List a7} {ac : Act} {x : a7}
theorem ec3 {P : Program} {t : TypeId} (h : szT P t ≠ 0) : ∃ i, P.info? t = some i ∧ i.size = szT P t := by
 unfold szT at *
 cases hi : P.info? t with
 | none => simp [hi] at h
 | some i => exact ⟨i, rfl, by simp⟩
theorem pa4 {α : Type} {n : Nat} {f : Nat → α} {j : Nat} {v : α} (h : ((List.range n).map f)[j]? = some v) : j < n ∧ f j = v := by
 rw [List.getElem?_map] at h
 rcases Nat.lt_or_ge j n with hj | hj
 ·rw [List.getElem?_range hj] at h; exact ⟨hj, by simpa using h⟩
 ·rw [List.getElem?_eq_none (by simpa using hj)] at h; cases h
theorem Da6 {P : Program} {t : TypeId} (h : agT P t = true) (w : World) : (isAgg t).run P w = .ok true w := by
 unfold agT at h
 split at h
 ·rename_i fs hu; simp [isAgg, run_underlying hu]
 ·rename_i n e hu; simp [isAgg, run_underlying hu]
 ·cases h
theorem sa8 {P : Program} {t : TypeId} (h : agT P t = false) (hd : P.underlying t ≠ none) (w : World) : (isAgg t).run P w = .ok false w := by
 unfold agT at h
 cases hu : P.underlying t with
 | none => exact absurd hu hd
 | some d => cases d <;> simp [hu] at h <;> simp [isAgg, run_underlying hu]
theorem hb6 (hH : r8 W ρ H F w) {p : a7} {p' : Value} {n : Nat} {cs : List a7} (hp : y8 ρ H F w p p') (he : Ev.loadCells H p n = some cs) :
  ∃ (ad : Addr) (vs : List Value), p' = .pointer (some ad) ∧ (0 < n → ad.spot = none) ∧ cs.length = n ∧ vs.length = n ∧ (∀ j v, vs[j]? = some v → w.cell? ⟨ad.block, ad.off + j, none⟩ = some v) ∧
   ∀ (j : Nat) x x', cs[j]? = some x → vs[j]? = some x' → R2 F w x x' := by
 revert he hp
 cases p with
 | ptr id i c g =>
  intro hp he
  simp only [Ev.loadCells] at he
  cases hbk : blkAt H id g with
  | none => simp [hbk] at he
  | some b =>
  obtain ⟨hb, hd, hg⟩ := q7 hbk
  simp only [hbk, w6] at he
  cases hr : b.elems[i]? with
  | none => simp [hr] at he
  | some cells =>
  simp only [hr, j7, E3, E4] at he
  cases hle : Nat.ble (c + n) cells.length with
  | false => simp [hle] at he
  | true =>
  simp only [hle] at he
  injection he with he
  have hle' : c + n ≤ cells.length := Nat.le_of_ble_eq_true hle
  obtain ⟨ad, b', e, hb', hd', hg', hh⟩ := ia9 hp
  have : b' = b := Option.some.inj (hb'.symm.trans hb)
  subst this
  have had := hh hg
  obtain ⟨cc, t, fr, hB⟩ := hH.blk id b' hb hd
  have hcell : ∀ j, j < n → ∃ x', cc[(ρ id).off + (i * b'.es + (c + j))]? = some x' ∧ ∀ x, cells[c + j]? = some x → R2 F w x x' := fun j hj => by
   have hlt : c + j < cells.length := by omega
   obtain ⟨x', h1, h2⟩ := hB.cell i cells (c + j) _ hr (List.getElem?_eq_getElem hlt)
   exact ⟨x', h1, fun x hx => by rw [List.getElem?_eq_getElem hlt] at hx; injection hx with hx; subst hx; exact h2⟩
  have hsz : ∀ j, j < n → (ρ id).off + (i * b'.es + (c + j)) < cc.size := fun j hj => by
   obtain ⟨x', h1, _⟩ := hcell j hj
   exact (Array.getElem?_eq_some_iff.1 h1).1
  refine ⟨ad, (List.range n).map fun j => cc.getD ((ρ id).off + (i * b'.es + (c + j))) undef, e, fun _ => by rw [had], ?_, by simp, fun j v hj => ?_, fun j x x' hx hx' => ?_⟩
  ·rw [← he]; simp only [List.length_take, List.length_drop]; omega
  ·obtain ⟨hj1, hj2⟩ := pa4 hj
   have hlt := hsz j hj1
   rw [had]
   rw [show (ρ id).off + (i * b'.es + c) + j = (ρ id).off + (i * b'.es + (c + j)) by omega, hB.cellAt, ← hj2]
   simp [hlt]
  ·obtain ⟨hj1, hj2⟩ := pa4 hx'
   have hlt := hsz j hj1
   obtain ⟨x'', h1, h2⟩ := hcell j hj1
   rw [← he] at hx
   have hx0 : cells[c + j]? = some x := by
    rw [List.getElem?_take, if_pos hj1, List.getElem?_drop] at hx
    exact hx
   have := h2 x hx0
   rw [Array.getElem?_eq_getElem hlt] at h1
   injection h1 with h1
   rw [← hj2]
   simp [hlt, h1, this]
 | tptr l =>
  intro hp he
  simp only [Ev.loadCells, j7, E3] at he
  cases hle : Nat.ble n l.length with
  | false => simp [hle] at he
  | true =>
  simp only [hle] at he
  injection he with he
  have hle' : n ≤ l.length := Nat.le_of_ble_eq_true hle
  obtain ⟨ad, vs, e, hs, hF, hw, hr⟩ := Na9 hp
  refine ⟨ad, (List.range n).map vs, e, fun _ => hs, by rw [← he]; simp only [List.length_take]; omega, by simp, fun j v hj => ?_, fun j x x' hx hx' => ?_⟩
  ·obtain ⟨hj1, hj2⟩ := pa4 hj
   rw [hw j (by omega), hj2]
  ·obtain ⟨hj1, hj2⟩ := pa4 hx'
   rw [← he, List.getElem?_take] at hx
   simp only [hj1, if_true] at hx
   have hlt : j < l.length := by omega
   rw [List.getElem?_eq_getElem hlt] at hx
   injection hx with hx
   rw [← hx, ← hj2]
   exact hr j hlt
 | _ => intro _ he; cases he
theorem vc6 {k : CK} {x : a7} (h : fb6 k x = true) : Ac7 k x = x ∨ ∃ es, k = .sl es ∧ x = .v (.slice none 0 0) := by
 unfold fb6 at h
 split at h
 ·simp only [decide_eq_true_eq] at h; subst h; exact .inl rfl
 ·exact .inl rfl
 ·have := Nat.eq_of_beq_eq_true h; subst this; exact .inl rfl
 ·exact .inr ⟨_, rfl, rfl⟩
 ·exact .inl rfl
 ·cases h
theorem Hc2 {ρ : Rho} {H : List a8} {x' : Value} (h : y8 ρ H F w (.v (.slice none 0 0)) x') : x' = .slice none 0 0 := Q6 h
theorem Hc3 {k : CK} {y : a7} {x' : Value} (h : fb6 k y = true) (hy : R2 F w y x') : R2 F w (Ac7 k y) x' := by
 rcases vc6 h with e | ⟨es, rfl, rfl⟩
 ·rw [e]; exact hy
 ·cases hy; exact .nil _ _
theorem Bc5 {ρ : Rho} {H : List a8} {k : CK} {y : a7} {x' : Value} (h : fb6 k y = true) (hy : P6 ρ H F w y x') : P6 ρ H F w (Ac7 k y) x' := by
 rcases vc6 h with e | ⟨es, rfl, rfl⟩
 ·rw [e]; exact hy
 ·have := Hc2 (.val (.cell hy)); subst this; exact .mem (.nil _ _)
theorem cb9 : ∀ (ks : List CK) (cs : List a7), (Wa6 ks cs).length = ks.length
 | [], _ => rfl
 | k :: ks, cs => congrArg Nat.succ (cb9 ks (tlA cs))
theorem ub3 : ∀ (ks : List CK) (cs : List a7), Ka0 ks cs = true → ∀ (j : Nat) x, (Wa6 ks cs)[j]? = some x → j < ks.length ∧ ∃ k y, fb6 k y = true ∧ x = Ac7 k y ∧ (j < cs.length → cs[j]? = some y)
 | [], _, _, j, x, hx => by simp [Wa6] at hx
 | k :: ks, cs, h, j, x, hx => by
  have h : Bool.and (fb6 k (hdA cs)) (Ka0 ks (tlA cs)) = true := h
  have hx : (Ac7 k (hdA cs) :: Wa6 ks (tlA cs))[j]? = some x := hx
  have h' : fb6 k (hdA cs) = true ∧ Ka0 ks (tlA cs) = true := by simpa using h
  cases j with
  | zero =>
   simp at hx
   refine ⟨by simp, k, hdA cs, h'.1, hx.symm, fun hc => ?_⟩
   cases cs with
   | nil => simp at hc
   | cons c r => rfl
  | succ j =>
   obtain ⟨h1, k', y, h2, h3, h4⟩ := ub3 ks (tlA cs) h'.2 j x (by simpa using hx)
   refine ⟨by simp; omega, k', y, h2, h3, fun hc => ?_⟩
   cases cs with
   | nil => simp at hc
   | cons c r => simp only [List.getElem?_cons_succ]; exact h4 (by simpa [tlA] using hc)
theorem ec4 {p : a7} {n : Nat} {q : Bool × List a7} (h : Pa9 H p n = some q) (h1 : q.1 = true) : Ev.loadCells H p n = some (E2 q.2 n) ∧ n ≤ q.2.length := by
 revert h
 cases p with
 | ptr id i c g =>
  intro h
  simp only [Pa9] at h
  cases hb : blkAt H id g with
  | none => simp [hb] at h
  | some b =>
  simp only [hb] at h
  injection h with h
  subst h
  simp only [Bool.and_eq_true] at h1
  have hi : i < b.elems.length := by have := Nat.le_of_ble_eq_true h1.1; rw [j7] at this; exact this
  have hr : r7 b.elems i = b.elems[i] := by simp [r7, w6, List.getElem?_eq_getElem hi]
  have h2 := h1.2
  rw [hr] at h2 ⊢
  refine ⟨by simp only [Ev.loadCells, hb, w6, List.getElem?_eq_getElem hi, h2], ?_⟩
  have := Nat.le_of_ble_eq_true h2
  rw [j7] at this
  rw [E4, List.length_drop]
  omega
 | tptr cs =>
  intro h
  injection h with h
  subst h
  have h1 : n.ble (len cs) = true := h1
  refine ⟨by simp only [Ev.loadCells]; rw [h1], ?_⟩
  have := Nat.le_of_ble_eq_true h1
  rwa [j7] at this
 | _ => intro h; cases h
theorem Bc6 (hH : r8 W ρ H F w) {p : a7} {p' : Value} {n : Nat} {ks : List CK} {q : Bool × List a7} (hp : y8 ρ H F w p p') (he : Pa9 H p n = some q) (hok : Bool.and q.1 (Bool.and (Nat.beq (len ks) n) (Ka0 ks q.2)) = true) :
  ∃ (ad : Addr) (vs : List Value), p' = .pointer (some ad) ∧ (0 < n → ad.spot = none) ∧ (Wa6 ks q.2).length = n ∧ vs.length = n ∧ (∀ j v, vs[j]? = some v → w.cell? ⟨ad.block, ad.off + j, none⟩ = some v) ∧
   ∀ (j : Nat) x x', (Wa6 ks q.2)[j]? = some x → vs[j]? = some x' → R2 F w x x' := by
 simp only [Bool.and_eq_true] at hok
 obtain ⟨h1, h2, h3⟩ := hok
 obtain ⟨h4, h5⟩ := ec4 he h1
 have h2 := Nat.eq_of_beq_eq_true h2
 rw [j7] at h2
 obtain ⟨ad, vs, e, hs, hcl, hvl, hw, hr⟩ := hb6 hH hp h4
 refine ⟨ad, vs, e, hs, by rw [cb9, h2], hvl, hw, fun j x x' hx hx' => ?_⟩
 obtain ⟨hj, k, y, g1, rfl, g2⟩ := ub3 ks q.2 h3 j x hx
 refine Hc3 g1 (hr j y x' ?_ hx')
 rw [E3, List.getElem?_take, if_pos (by omega)]
 exact g2 (by omega)
section
variable (hA : ca7 ρ H F w a ac.tmps) (hH : r8 W ρ H F w) (hG : GOk E F w)
include hA hH hG
theorem qc0 {ks : List CK} {t : TypeId} {y : Operand} (ho : o.op = .load t y) (hu : E.P.underlying t ≠ none)
  (he : (evalOp E a H (.load ks (szT E.P t) (agT E.P t) (f0 y))).run = some (x, H')) : i5 E.P o ac w (J3 W ρ H F w x H') := by
 have hy := j5 hA hG y
 simp only [evalOp] at he
 cases hl : Pa9 H (a9 E a (f0 y)) (szT E.P t) with
 | none => rw [hl] at he; cases he
 | some q =>
 rw [hl] at he
 obtain ⟨hgd, he⟩ := DT.run_guard_some he
 obtain ⟨z, h1, h2⟩ := ua7 he
 injection h2 with e1 e2; subst e1 e2
 obtain ⟨ad, vs, e, hs, hcl, hvl, hw, hr⟩ := Bc6 hH hy hl hgd
 generalize Wa6 ks q.2 = cs at *
 have hti : ∃ i, E.P.info? t = some i ∧ i.size = szT E.P t := by
  cases hd : E.P.underlying t with
  | none => exact absurd hd hu
  | some d => exact Ea3 hd
 obtain ⟨ti, hi1, hi2⟩ := hti
 rcases cb8 h1 with ⟨hag, rfl⟩ | ⟨hag, z', rfl, rfl⟩
 ·refine .value (x' := .agg vs.toArray) (w' := w) ?_ (.stay hH (.val (.agg cs vs.toArray (by simp [hcl, hvl]) fun i x x' hx hx' => .mem (hr i x x' hx (by simpa using hx')))))
  have hlc : (Go.loadCells ad (szT E.P t)).run E.P w = .ok vs.toArray w := by
   rw [← hvl]
   refine run_loadCells_list (P := E.P) w ad vs fun j v hj => ?_
   have hj' : j < szT E.P t := by rw [← hvl]; exact (List.getElem?_eq_some_iff.1 hj).1
   rw [T6 (hs (by omega))]
   exact hw j v hj
  simp [execOp, ho, e, Instr.loadAt, Instr.sureAddr, loadVar, Da6 hag, sizeOf, typeInfo, hi1, hi2, hlc]
 ·have h1 : szT E.P t = 1 := by simpa using hcl.symm
  have hv1 : vs.length = 1 := by omega
  obtain ⟨v, rfl⟩ : ∃ v, vs = [v] := by
   match vs, hv1 with
   | [v], _ => exact ⟨v, rfl⟩
  have hc := hw 0 v rfl
  have hsp := hs (by omega)
  have hcell : w.cell? ad = some v := by
   obtain ⟨b, of, sp⟩ := ad
   simp at hsp
   subst hsp
   simpa using hc
  refine .value (x' := v) (w' := w) ?_ (.stay hH (.val (.cell (.mem (hr 0 _ v rfl rfl)))))
  simp [execOp, ho, e, Instr.loadAt, Instr.sureAddr, loadVar, sa8 hag hu, hcell]
end
theorem ub4 (hH : r8 W ρ H F w) {id off n g : Nat} {b : a8} {y' : Value} {F' : Fz} (hbk : blkAt H id g = some b) (hy : y8 ρ H F w (.sl id off n g) y')
  (hmore : ∀ b o, F b o → F' b o) (hF' : ∀ o, o < b.elems.length * b.es → F' (ρ id).blk ((ρ id).off + o)) : R2 F' w (Wa7 b off n) y' := by
 obtain ⟨hb, hd, hg⟩ := q7 hbk
 obtain ⟨ad, cap, b', e, hb', hd', hg', hn, hspot, -, hh⟩ := ka8 hy
 have : b' = b := Option.some.inj (hb'.symm.trans hb)
 subst this
 obtain ⟨h3, h4, h5⟩ := hh hg
 obtain ⟨cc, t, fr, hB⟩ := hH.blk id b' hb hd
 rw [e]
 rcases Nat.eq_zero_or_pos n with hn0 | hn0
 ·subst hn0
  exact .tree b'.es 0 _ ad cap (fun _ _ => undef) (fun _ => hspot) hn (fun i hi => absurd hi (by omega)) (fun i c hi => absurd hi (by omega)) (fun i c hi => absurd hi (by omega)) (fun i c hi => absurd hi (by omega))
 ·have had := h3.resolve_left (by omega)
  have hrow : ∀ i, i < n → ∃ r, b'.elems[off + i]? = some r ∧ r7 b'.elems (off + i) = r ∧ r.length = b'.es := fun i hi => by
   have hlt : off + i < b'.elems.length := by omega
   exact ⟨_, List.getElem?_eq_getElem hlt, by simp [r7, w6, List.getElem?_eq_getElem hlt], hB.rows _ _ (List.getElem?_eq_getElem hlt)⟩
  have hbound : ∀ i c, i < n → c < b'.es → (off + i) * b'.es + c < b'.elems.length * b'.es := fun i c hi hc => by
   have h1 : (off + i + 1) * b'.es ≤ b'.elems.length * b'.es := Nat.mul_le_mul_right _ (by omega)
   rw [Nat.add_mul] at h1
   omega
  have hoff : ∀ i c, (ρ id).off + off * b'.es + (i * b'.es + c) = (ρ id).off + ((off + i) * b'.es + c) := fun i c => by rw [Nat.add_mul off i]; omega
  refine .tree b'.es n _ ad cap (fun i c => cc.getD ((ρ id).off + ((off + i) * b'.es + c)) undef) (fun _ => by rw [had]) hn (fun i hi => ?_) (fun i c hi hc => ?_) (fun i c hi hc => ?_) (fun i c hi hc => ?_)
  ·obtain ⟨r, h1, h2, h6⟩ := hrow i hi
   rw [h2]; exact h6
  ·rw [had]; simp only; rw [hoff]; exact hF' _ (hbound i c hi hc)
  ·rw [had]; simp only; rw [hoff, hB.cellAt]
   have := hB.room; have := hB.len; have := hbound i c hi hc
   have hlt : (ρ id).off + ((off + i) * b'.es + c) < cc.size := by omega
   simp [hlt]
  ·obtain ⟨r, h1, h2, h6⟩ := hrow i hi
   have hc' : c < r.length := by rw [← h2]; exact hc
   obtain ⟨x', h7, h8⟩ := hB.cell (off + i) r c _ h1 (List.getElem?_eq_getElem hc')
   have hlt := (Array.getElem?_eq_some_iff.1 h7).1
   rw [Array.getElem?_eq_getElem hlt] at h7
   injection h7 with h7
   have e9 : cc.getD ((ρ id).off + ((off + i) * b'.es + c)) undef = x' := by simp [hlt, h7]
   have e10 : (r7 b'.elems (off + i))[c] = r[c] := by congr 1
   rw [e9, e10]
   exact h8.adv hmore (fun _ _ _ => rfl)
theorem hb7 (hH : r8 W ρ H F w) {y z : a7} {y' : Value} (hy : P6 ρ H F w y y') (he : freezeCell H y = some (z, H')) :
  ∃ F', Adv W ρ H F w ρ H' F' w ∧ r8 W ρ H' F' w ∧ R2 F' w z y' ∧ H'.length = H.length := by
 revert he hy
 cases y with
 | v u =>
  intro hy he
  simp only [freezeCell] at he
  cases h1 : Ob2 u with
  | false => simp [h1] at he
  | true =>
  simp only [h1] at he
  injection he with he; injection he with e1 e2; subst e1 e2
  have := Q6 (.val (.cell hy))
  subst this
  exact ⟨F, .refl, hH, .v _ (by rw [← nb5]; exact h1), rfl⟩
 | tree es n get =>
  intro hy he
  injection he with he; injection he with e1 e2; subst e1 e2
  exact ⟨F, .refl, hH, ga8 (.val (.cell hy)), rfl⟩
 | fn f caps =>
  intro hy he
  cases caps with
  | cons => cases he
  | nil =>
   injection he with he; injection he with e1 e2; subst e1 e2
   cases hy with
   | mem h => exact ⟨F, .refl, hH, h, rfl⟩
 | sl id off n g =>
  intro hy he
  simp only [freezeCell] at he
  cases hbk : blkAt H id g with
  | none => simp [hbk] at he
  | some b =>
  obtain ⟨hb, hd, hg⟩ := q7 hbk
  simp only [hbk] at he
  injection he with he; injection he with e1 e2
  have hdis : disown H id = H.set id { b with own := false } := by
   simp [disown, modAt, w6, hb, y7]
  rw [hdis] at e2
  subst e1 e2
  obtain ⟨F', hadv, hH', hF'⟩ := hH.disown id b hb hd
  exact ⟨F', hadv, hH', ub4 hH hbk (.val (.cell hy)) hadv.more hF', by simp⟩
 | _ => intro _ he; cases he
theorem Ea4 (hH : r8 W ρ H F w) {ys zs : List a7} {vs : List Value} (hl : ys.length = vs.length) (hy : ∀ (i : Nat) y y', ys[i]? = some y → vs[i]? = some y' → P6 ρ H F w y y') (he : freezeCells H ys = some (zs, H')) :
  ∃ F', Adv W ρ H F w ρ H' F' w ∧ r8 W ρ H' F' w ∧ zs.length = ys.length ∧ (∀ (i : Nat) z y', zs[i]? = some z → vs[i]? = some y' → R2 F' w z y') ∧ H'.length = H.length := by
 induction ys generalizing H F zs vs with
 | nil =>
  simp only [freezeCells] at he
  injection he with he; injection he with e1 e2; subst e1 e2
  exact ⟨F, .refl, hH, rfl, fun i z y' h => by simp at h, rfl⟩
 | cons y r ih =>
  cases vs with
  | nil => simp at hl
  | cons v vs =>
  simp only [freezeCells] at he
  cases h1 : freezeCell H y with
  | none => simp [h1] at he
  | some p =>
  obtain ⟨y1, H1⟩ := p
  simp only [h1] at he
  cases h2 : freezeCells H1 r with
  | none => simp [h2] at he
  | some q =>
  obtain ⟨l, H2⟩ := q
  simp only [h2] at he
  injection he with he; injection he with e1 e2; subst e1 e2
  obtain ⟨F1, a1, hH1, m1, l1⟩ := hb7 hH (hy 0 y v rfl rfl) h1
  obtain ⟨F2, a2, hH2, l2, m2, l3⟩ := ih hH1 (vs := vs) (by simpa using hl) (fun i x x' hx hx' => (hy (i + 1) x x' (by simpa using hx) (by simpa using hx')).adv a1) h2
  refine ⟨F2, a1.trans a2, hH2, by simp [l2], fun i z z' hz hz' => ?_, l3.trans l1⟩
  cases i with
  | zero =>
   simp at hz hz'
   subst hz hz'
   exact m1.adv a2.more a2.ext.cells
  | succ i => exact m2 i z z' (by simpa using hz) (by simpa using hz')
theorem nb6 {y : a7} {y' : Value} (hy : y8 ρ H F w y y') (hp : sa6 y = true) (hn : ∀ cs, y ≠ .agg cs) : P6 ρ H F w y y' ∧ y'.cells = #[y'] := by
 cases hy with
 | tup => cases hp
 | val h => cases h with
  | agg cs => exact absurd rfl (hn cs)
  | fn f caps vs hl h =>
   cases caps with
   | cons => cases hp
   | nil =>
    have : vs = #[] := by simpa using hl.symm
    subst this
    exact ⟨.mem (.fn f), rfl⟩
  | cell h =>
   refine ⟨h, ?_⟩
   have hv : ∀ x : Value, x.oneCell' = true → x.cells = #[x] := fun x hx => by cases x <;> first | rfl | cases hx
   cases h with
   | mem h => exact hv _ h.one
   | v => exact hv _ (by rw [← nb5]; exact hp)
   | ptr => rfl
   | sl => rfl
   | tptr => rfl
   | unk => cases hp
theorem db0 {y : a7} {y' : Value} (hy : y8 ρ H F w y y') (hp : sa6 y = true) :
  (z6 y).length = y'.cells.toList.length ∧ ∀ (i : Nat) z z', (z6 y)[i]? = some z → y'.cells.toList[i]? = some z' → P6 ρ H F w z z' := by
 by_cases hn : ∀ cs, y ≠ .agg cs
 ·obtain ⟨h1, h2⟩ := nb6 hy hp hn
  have ha : z6 y = [y] := by
   cases y with
   | agg cs => exact absurd rfl (hn cs)
   | _ => rfl
  rw [ha, h2]
  refine ⟨rfl, fun i z z' hz hz' => ?_⟩
  cases i with
  | zero => simp at hz hz'; subst hz hz'; exact h1
  | succ i => simp at hz
 ·have : ∃ cs, y = .agg cs := Classical.byContradiction fun h => hn fun cs e => h ⟨cs, e⟩
  obtain ⟨cs, rfl⟩ := this
  obtain ⟨vs, rfl, hl, h⟩ := ja0 hy
  exact ⟨by simpa [z6, Value.cells] using hl, fun i z z' hz hz' => h i z z' hz (by simpa [Value.cells] using hz')⟩
theorem ec5 {y : a7} {zs : List a7} (he : freezeCells H (z6 y) = some (zs, H')) : sa6 y = true := by
 cases y with
 | v u =>
  simp only [z6, freezeCells, freezeCell] at he
  cases h1 : Ob2 u with
  | true => simpa [sa6] using h1
  | false => simp [h1] at he
 | tup => simp [z6, freezeCells, freezeCell] at he
 | unk => simp [z6, freezeCells, freezeCell] at he
 | fn f caps =>
  cases caps with
  | nil => rfl
  | cons => simp [z6, freezeCells, freezeCell] at he
 | _ => rfl
theorem nb7 (hH : r8 W ρ H F w) {y : a7} {y' : Value} {zs : List a7} (hy : y8 ρ H F w y y') (he : freezeCells H (z6 y) = some (zs, H')) :
  ∃ F', Adv W ρ H F w ρ H' F' w ∧ r8 W ρ H' F' w ∧ zs.length = y'.cells.toList.length ∧ (∀ (i : Nat) z z', zs[i]? = some z → y'.cells.toList[i]? = some z' → R2 F' w z z') ∧ H'.length = H.length := by
 obtain ⟨h1, h2⟩ := db0 hy (ec5 he)
 obtain ⟨F', h3, h4, h5, h6, h7⟩ := Ea4 hH h1 h2 he
 exact ⟨F', h3, h4, by rw [h5, h1], h6, h7⟩
theorem ub5 (H : List a8) (et es : Nat) (elems : List (List a7)) : aa5 H et es elems = H ++ [{ et, es, elems, own := true, dead := false, g := 0 }] := by
 simp [aa5, B4]
theorem r8.alloc1 (h : r8 W ρ H F w) (cs : List a7) (vs : Array Value) (t : TypeId) (hl : cs.length = vs.toList.length) (hm : ∀ (i : Nat) z z', cs[i]? = some z → vs.toList[i]? = some z' → R2 F w z z') :
  J3 W ρ H F w (.ptr H.length 0 0 0) (aa5 H 0 cs.length [cs]) (.pointer (some ⟨w.heap.size, 0, none⟩)) (w.alloc (.cells vs t)) := by
 have hl' : cs.length = vs.size := by simpa using hl
 obtain ⟨h1, h2⟩ := h.alloc 0 cs.length [cs] vs t (fun i r hr => by
   cases i with
   | zero => simp at hr; subst hr; rfl
   | succ i => simp at hr) (by simp [hl']) (fun i r c z hr hz => by
   cases i with
   | zero =>
    simp at hr; subst hr
    have hc : c < vs.size := hl' ▸ (List.getElem?_eq_some_iff.1 hz).1
    exact ⟨vs[c], by simp [hc], hm c z _ hz (by simp [hc])⟩
   | succ i => simp at hr) (fun h => absurd rfl h)
 rw [ub5]
 refine ⟨_, F, h1, h2, .val (.cell (.ptr _ _ _ _ _ { et := 0, es := cs.length, elems := [cs], own := true, dead := false, g := 0 } (by simp) rfl (Nat.le_refl _) fun _ => ?_))⟩
 simp [ρnew]
section
variable (hA : ca7 ρ H F w a ac.tmps) (hH : r8 W ρ H F w) (hG : GOk E F w)
include hA hH hG
omit hA hG in
theorem Ya0 {t : TypeId} {z : List a7} (ho : o.op = .alloc t) (hz : zeT E.P t = some z) (he : (evalOp E a H (.alloc z)).run = some (x, H')) : i5 E.P o ac w (J3 W ρ H F w x H') := by
 have he' : some (a7.ptr (len H) 0 0 0, aa5 H 0 (len z) [z]) = some (x, H') := he
 injection he' with he'; injection he' with e1 e2; subst e1 e2
 rw [j7, j7]
 unfold zeT at hz
 cases hi : E.P.info? t with
 | none => simp [hi] at hz
 | some i =>
 cases hzz : i.zero with
 | none => simp [hi, hzz] at hz
 | some zv =>
 simp only [hi, hzz] at hz
 split at hz
 ·rename_i hall
  injection hz with hz
  subst hz
  refine .value (x' := .pointer (some ⟨w.heap.size, 0, none⟩)) (w' := w.alloc (.cells zv.cells t)) (by simp [execOp, ho, Instr.alloc, zeroValue, typeInfo, hi, hzz, newVar, newRow]) ?_
  refine r8.alloc1 hH _ zv.cells t (by simp) fun i z z' h1 h2 => ?_
  rw [List.getElem?_map] at h1
  rw [h2] at h1
  simp at h1
  subst h1
  refine .v _ ?_
  rw [← nb5]
  exact List.all_eq_true.1 hall z' (List.mem_of_getElem? h2)
 ·cases hz
theorem Bc7 {t : TypeId} {y : Operand} (ho : o.op = .box t y) (he : (evalOp E a H (.box (f0 y))).run = some (x, H')) : i5 E.P o ac w (J3 W ρ H F w x H') := by
 have hy := j5 hA hG y
 simp only [evalOp] at he
 cases hf : freezeCells H (z6 (a9 E a (f0 y))) with
 | none => rw [hf] at he; cases he
 | some p =>
 obtain ⟨cs, H1⟩ := p
 rw [hf] at he
 have he' : some (a7.ptr (len H1) 0 0 0, aa5 H1 0 (len cs) [cs]) = some (x, H') := he
 injection he' with he'; injection he' with e1 e2; subst e1 e2
 rw [j7, j7]
 obtain ⟨F1, a1, hH1, hl, hm, hlen⟩ := nb7 hH hy hf
 refine .value (x' := .pointer (some ⟨w.heap.size, 0, none⟩)) (w' := w.alloc (.cells (ac.eval y).cells t)) (by simp [execOp, ho, Instr.box, newVar, newRow]) ?_
 obtain ⟨ρ', F', h1, h2, h3⟩ := r8.alloc1 hH1 cs (ac.eval y).cells t hl hm
 exact ⟨ρ', F', a1.trans h1, h2, h3⟩
omit hA hH hG in
theorem jb6 {l new : List a7} {c k : Nat} {z : a7} (hfit : c + new.length ≤ l.length) (h : (aa4 l c new)[k]? = some z) : (c ≤ k ∧ k < c + new.length ∧ new[k - c]? = some z) ∨ ((k < c ∨ c + new.length ≤ k) ∧ l[k]? = some z) := by
 unfold aa4 at h
 rw [B4, B4, E3, E4, j7] at h
 rcases Nat.lt_or_ge k c with hk | hk
 ·rw [List.getElem?_append_left (by simp; omega), List.getElem?_take, if_pos hk] at h
  exact .inr ⟨.inl hk, h⟩
 ·rw [List.getElem?_append_right (by simp; omega)] at h
  have e : k - (l.take c).length = k - c := by simp; omega
  rw [e] at h
  rcases Nat.lt_or_ge k (c + new.length) with hk2 | hk2
  ·rw [List.getElem?_append_left (by omega)] at h
   exact .inl ⟨hk, hk2, h⟩
  ·rw [List.getElem?_append_right (by omega), List.getElem?_drop] at h
   exact .inr ⟨.inr hk2, by rwa [show c + new.length + (k - c - new.length) = k by omega] at h⟩
omit hA hH hG in
theorem ua9 {l new : List a7} {c : Nat} (hfit : c + new.length ≤ l.length) : (aa4 l c new).length = l.length := by
 unfold aa4
 rw [B4, B4, E3, E4, j7]
 simp
 omega
omit hA hH hG in
theorem Qa5 {l : Array Value} {new : List Value} {c k : Nat} (hfit : c + new.length ≤ l.size) :
  ((l.toList.take c ++ new ++ l.toList.drop (c + new.length)).toArray)[k]? = if c ≤ k ∧ k < c + new.length then new[k - c]? else l[k]? := by
 simp only [List.getElem?_toArray]
 rcases Nat.lt_or_ge k c with hk | hk
 ·rw [if_neg (by omega), List.append_assoc, List.getElem?_append_left (by simp; omega), List.getElem?_take, if_pos hk]
  simp
 ·rcases Nat.lt_or_ge k (c + new.length) with hk2 | hk2
  ·rw [if_pos ⟨hk, hk2⟩, List.append_assoc, List.getElem?_append_right (by simp; omega), List.getElem?_append_left (by simp; omega)]
   congr 1
   simp; omega
  ·rw [if_neg (by omega), List.getElem?_append_right (by simp; omega), List.getElem?_drop]
   rw [show c + new.length + (k - (l.toList.take c ++ new).length) = k by simp; omega]
   simp
theorem ec6 {t : TypeId} {y z : Operand} (ho : o.op = .store t y z) (h0 : szT E.P t ≠ 0) (he : (evalOp E a H (.store (szT E.P t) (f0 y) (f0 z))).run = some (x, H')) : i5 E.P o ac w (J3 W ρ H F w x H') := by
 have hy := j5 hA hG y
 have hz := j5 hA hG z
 simp only [evalOp] at he
 revert he hy
 cases a9 E a (f0 y) with
 | ptr id i c g =>
  intro he hy
  cases hf : freezeCells H (z6 (a9 E a (f0 z))) with
  | none => simp [hf] at he
  | some p =>
  obtain ⟨cs, H1⟩ := p
  simp only [hf] at he
  cases hbk : blkAt H1 id g with
  | none => simp [hbk] at he
  | some b =>
  simp only [hbk] at he
  obtain ⟨hc, he⟩ := DT.run_guard_some he
  simp only [Bool.and_eq_true] at hc
  obtain ⟨⟨hown, hn⟩, hilt0, hfit⟩ := hc
  have hilt0 : i < b.elems.length := by have := Nat.le_of_ble_eq_true hilt0; rw [j7] at this; exact this
  have hr : b.elems[i]? = some (r7 b.elems i) := by simp [r7, w6, List.getElem?_eq_getElem hilt0]
  generalize r7 b.elems i = cells at *
  simp only [j7, y7] at he hn hfit
  have he' : some (a7.v (.tuple #[]), H1.set id { b with elems := b.elems.set i (aa4 cells c cs) }) = some (x, H') := he
  injection he' with he'; injection he' with e1 e2; subst e1 e2
  have hn := Nat.eq_of_beq_eq_true hn
  have hfit : c + szT E.P t ≤ cells.length := Nat.le_of_ble_eq_true hfit
  rw [← hn] at hfit
  obtain ⟨F1, a1, hH1, hl, hm, hlen⟩ := nb7 hH hz hf
  obtain ⟨hb, hd, hg⟩ := q7 hbk
  obtain ⟨ad, b', e, hb', hd', hg', hh⟩ := ia9 (hy.adv a1)
  have : b' = b := Option.some.inj (hb'.symm.trans hb)
  subst this
  have had := hh hg
  obtain ⟨cc, tt, fr, hB⟩ := hH1.blk id b' hb hd
  obtain ⟨hfr, hW, hoff, hsize, hnF, het⟩ := hB.own hown
  subst hfr
  have hrl := hB.rows i cells hr
  have hilt := (List.getElem?_eq_some_iff.1 hr).1
  have hbnd : i * b'.es + b'.es ≤ b'.elems.length * b'.es := by
   have := Nat.mul_le_mul_right b'.es (show i + 1 ≤ b'.elems.length from hilt)
   rwa [Nat.add_mul, Nat.one_mul] at this
  have hlenB := hB.len
  have hl2 : (ac.eval z).cells.toList.length = cs.length := hl.symm
  have hone : ∀ v ∈ (ac.eval z).cells.toList, v.oneCell' = true := fun v hv => by
   obtain ⟨k, hk, rfl⟩ := List.mem_iff_getElem.1 hv
   have hk' : k < cs.length := by omega
   exact (hm k _ _ (List.getElem?_eq_getElem hk') (List.getElem?_eq_getElem hk)).one
  have hfits : i * b'.es + c + (ac.eval z).cells.toList.length ≤ cc.size := by rw [hl2]; omega
  have hstore := run_storeCells_at (P := E.P) (ρ id).blk (i * b'.es + c) tt (ac.eval z).cells.toList 0 cc w hB.obj (by simpa using hfits) hone
  simp only [Nat.add_zero] at hstore
  obtain ⟨ti, hi1, hi2⟩ := ec3 h0
  have hsz0 : (ac.eval z).cells.size = ti.size := by rw [hi2, ← hn, ← hl2]; simp
  have had' : ad = ⟨(ρ id).blk, i * b'.es + c, none⟩ := by rw [had, hoff, Nat.zero_add]
  refine .skip (w' := w.setRow (ρ id).blk (cc.toList.take (i * b'.es + c) ++ (ac.eval z).cells.toList ++ cc.toList.drop (i * b'.es + c + (ac.eval z).cells.toList.length)).toArray) ?_ ?_
  ·simp [execOp, ho, e, had', Instr.storeAt, Instr.sureAddr, storeVar, sizeOf, typeInfo, hi1, hsz0, hstore]
  ·have hget : ∀ (i' : Nat) r, (b'.elems.set i (aa4 cells c cs))[i']? = some r → (i' = i ∧ r = aa4 cells c cs) ∨ (i' ≠ i ∧ b'.elems[i']? = some r) := fun i' r hr' => by
    by_cases e : i = i'
    ·subst e; simp [hilt] at hr'; exact .inl ⟨rfl, hr'.symm⟩
    ·rw [List.getElem?_set_ne e] at hr'; exact .inr ⟨fun h => e h.symm, hr'⟩
   obtain ⟨h3, h4⟩ := hH1.rewrite id b' { b' with elems := b'.elems.set i (aa4 cells c cs) } hb hd hown cc tt hB
    (cc.toList.take (i * b'.es + c) ++ (ac.eval z).cells.toList ++ cc.toList.drop (i * b'.es + c + (ac.eval z).cells.toList.length)).toArray
    (by simp at hfits ⊢; omega) rfl rfl hown hd (Nat.le_refl _) (fun _ => by simp) (by simpa using hlenB)
    (fun i' r hr' => by
     rcases hget i' r hr' with ⟨rfl, rfl⟩ | ⟨_, hr''⟩
     ·rw [ua9 hfit]; exact hrl
     ·exact hB.rows i' r hr'')
    (fun i' r k u hr' hu => by
     rw [Qa5 hfits]
     rcases hget i' r hr' with ⟨rfl, rfl⟩ | ⟨hne, hr''⟩
     ·rcases jb6 hfit hu with ⟨h1, h2, h3⟩ | ⟨h1, h3⟩
      ·rw [if_pos (by omega)]
       have hk : k - c < (ac.eval z).cells.toList.length := by omega
       refine ⟨(ac.eval z).cells.toList[k - c], ?_, hm (k - c) u _ h3 (List.getElem?_eq_getElem hk)⟩
       rw [show i' * b'.es + k - (i' * b'.es + c) = k - c by omega, List.getElem?_eq_getElem hk]
      ·have hk := (List.getElem?_eq_some_iff.1 h3).1
       rw [if_neg (by omega)]
       have := hB.cell i' cells k u hr h3
       rwa [hoff, Nat.zero_add] at this
     ·have hk : k < b'.es := by rw [← hB.rows i' r hr'']; exact (List.getElem?_eq_some_iff.1 hu).1
      have hnot : ¬ (i * b'.es + c ≤ i' * b'.es + k ∧ i' * b'.es + k < i * b'.es + c + (ac.eval z).cells.toList.length) := by
       rcases Nat.lt_or_ge i' i with hlt | hge
       ·have := Nat.mul_le_mul_right b'.es (show i' + 1 ≤ i from hlt)
        rw [Nat.add_mul, Nat.one_mul] at this
        omega
       ·have := Nat.mul_le_mul_right b'.es (show i + 1 ≤ i' by omega)
        rw [Nat.add_mul, Nat.one_mul] at this
        omega
      rw [if_neg hnot]
      have := hB.cell i' r k u hr'' hu
      rwa [hoff, Nat.zero_add] at this)
   exact ⟨ρ, F1, a1.trans h3, h4, .ofv _⟩
 | _ => intro he; cases he
end
end
end Go.Ev
namespace Go.Ev
open Go
section
variable {W : Nat → Prop} {ρ : Rho} {H H' : List a8} {F : Fz} {w : World} {E : Env} {o : Oper} {a : List a7} {ac : Act} {x : a7}
theorem Rb7 {k m es : Nat} (h : k < m * es) : k / es < m ∧ k % es < es ∧ k / es * es + k % es = k := by
  have hes : 0 < es := by
    rcases Nat.eq_zero_or_pos es with h0 | h0
    · subst h0; simp at h
    · exact h0
  refine ⟨Nat.div_lt_of_lt_mul (by rwa [Nat.mul_comm] at h), Nat.mod_lt _ hes, ?_⟩
  rw [Nat.mul_comm]
  exact Nat.div_add_mod k es
structure ec7 (F : Fz) (w : World) (es : Nat) (news : List (List a7)) (x' : Value) (nv : List Value) : Prop where
  rows : ∀ (i : Nat) r, news[i]? = some r → r.length = es
  len : nv.length = news.length * es
  form : (x' = .slice none 0 0 ∧ news = []) ∨ ∃ ad cap, x' = .slice (some ad) news.length cap ∧ (0 < news.length → ad.spot = none) ∧ ∀ j v, nv[j]? = some v → w.cell? (ad.add j) = some v
  cell : ∀ (i : Nat) r (c : Nat) u, news[i]? = some r → r[c]? = some u → ∃ u', nv[i * es + c]? = some u' ∧ R2 F w u u'
  one : ∀ u ∈ nv, u.oneCell' = true
theorem ec7.mk' {es : Nat} {news : List (List a7)} {ad : Addr} {cap : Nat} (hs : 0 < news.length → ad.spot = none) (f : Nat → Value) (rows : ∀ (i : Nat) r, news[i]? = some r → r.length = es)
    (hc : ∀ k, k < news.length * es → w.cell? ⟨ad.block, ad.off + k, none⟩ = some (f k))
    (hr : ∀ (i : Nat) r (c : Nat) u, news[i]? = some r → r[c]? = some u → R2 F w u (f (i * es + c))) :
    ec7 F w es news (.slice (some ad) news.length cap) ((List.range (news.length * es)).map f) := by
  refine ⟨rows, by simp, .inr ⟨ad, cap, rfl, hs, fun j v hj => ?_⟩, fun i r c u h1 h2 => ?_, fun u hu => ?_⟩
  · obtain ⟨h1, h2⟩ := pa4 hj
    have hpos : 0 < news.length := by
      rcases Nat.eq_zero_or_pos news.length with h0 | h0
      · rw [h0] at h1; omega
      · exact h0
    rw [T6 (hs hpos), hc j h1, h2]
  · have hi := (List.getElem?_eq_some_iff.1 h1).1
    have hcl : c < es := by rw [← rows i r h1]; exact (List.getElem?_eq_some_iff.1 h2).1
    have hlt : i * es + c < news.length * es := by
      have := Nat.mul_le_mul_right es (show i + 1 ≤ news.length from hi)
      rw [Nat.add_mul, Nat.one_mul] at this
      omega
    exact ⟨f (i * es + c), by simp [hlt], hr i r c u h1 h2⟩
  · obtain ⟨k, hk, rfl⟩ := List.mem_map.1 hu
    have hk' : k < news.length * es := by simpa using hk
    obtain ⟨h1, h2, h3⟩ := Rb7 hk'
    have hlen := rows (k / es) _ (List.getElem?_eq_getElem h1)
    have := hr (k / es) _ (k % es) _ (List.getElem?_eq_getElem h1) (List.getElem?_eq_getElem (by omega))
    rw [h3] at this
    exact this.one
theorem jb7 (hH : r8 W ρ H F w) {es : Nat} {y : a7} {y' : Value} {news : List (List a7)} (hy : y8 ρ H F w y y') (he : elemsOf es H y = some news) :
    ∃ nv, ec7 F w es news y' nv := by
  revert he hy
  cases y with
  | sl id off n g =>
    intro hy he
    simp only [elemsOf] at he
    cases hbk : blkAt H id g with
    | none => simp [hbk] at he
    | some b =>
    obtain ⟨hb, hd, hg⟩ := q7 hbk
    cases hbe : Nat.beq b.es es with
    | false => simp [hbk, hbe] at he
    | true =>
    have hbes := Nat.eq_of_beq_eq_true hbe
    simp only [hbk, hbe, E3, E4] at he
    injection he with he
    obtain ⟨ad, cap, b', e, hb', hd', hg', hn, hspot, -, hh⟩ := ka8 hy
    have : b' = b := Option.some.inj (hb'.symm.trans hb)
    subst this
    obtain ⟨h3, h4, h5⟩ := hh hg
    obtain ⟨cc, t, fr, hB⟩ := hH.blk id b' hb hd
    have hnl : news.length = n := by rw [← he]; simp; omega
    have hget : ∀ (i : Nat) r, news[i]? = some r → i < n ∧ b'.elems[off + i]? = some r := fun i r hr => by
      rw [← he] at hr
      rcases Nat.lt_or_ge i n with hi | hi
      · rw [List.getElem?_take, if_pos hi, List.getElem?_drop] at hr; exact ⟨hi, hr⟩
      · rw [List.getElem?_eq_none (by simp; omega)] at hr; cases hr
    rw [e, ← hnl]
    refine ⟨_, ec7.mk' (fun _ => hspot) (fun k => cc.getD ((ρ id).off + (off * es + k)) undef) (fun i r hr => by rw [← hbes]; exact hB.rows _ r (hget i r hr).2) (fun k hk => ?_) (fun i r c u h1 h2 => ?_)⟩
    · rw [hnl] at hk
      have hn0 : 0 < n := by rcases Nat.eq_zero_or_pos n with h0 | h0; · subst h0; simp at hk
                             · exact h0
      have had := h3.resolve_left (by omega)
      have hle : (off + n) * es ≤ b'.elems.length * b'.es := by rw [hbes]; exact Nat.mul_le_mul_right _ h5
      rw [Nat.add_mul] at hle
      have := hB.len; have := hB.room
      have hlt : (ρ id).off + (off * es + k) < cc.size := by omega
      rw [had]
      simp only
      rw [hbes, Nat.add_assoc, hB.cellAt]
      simp [hlt]
    · obtain ⟨hi, hr⟩ := hget i r h1
      obtain ⟨x', h6, h7⟩ := hB.cell _ r c u hr h2
      have e2 : (ρ id).off + ((off + i) * b'.es + c) = (ρ id).off + (off * es + (i * es + c)) := by rw [hbes, Nat.add_mul]; omega
      rw [e2] at h6
      have hlt := (Array.getElem?_eq_some_iff.1 h6).1
      rw [Array.getElem?_eq_getElem hlt] at h6
      injection h6 with h6
      simp only [Array.getD, hlt, dif_pos]
      simpa [h6] using h7
  | tree es' n get =>
    intro hy he
    simp only [elemsOf] at he
    cases hbe : Nat.beq es' es with
    | false => simp [hbe] at he
    | true =>
    have hbes := Nat.eq_of_beq_eq_true hbe
    simp only [hbe, n7] at he
    injection he with he
    have ht := ga8 hy
    cases ht with
    | tree _ _ _ ad cap cs hs hcap hes' hF hw hr =>
    have hnl : news.length = n := by rw [← he]; simp
    have hget : ∀ (i : Nat) r, news[i]? = some r → i < n ∧ get i = r := fun i r hr => by
      rw [← he] at hr
      exact pa4 hr
    conv => arg 1; ext nv; rw [← hnl]
    refine ⟨_, ec7.mk' (fun h => hs (by omega)) (fun k => cs (k / es) (k % es)) (fun i r hr => by obtain ⟨h1, h2⟩ := hget i r hr; rw [← h2, hes' i h1, hbes]) (fun k hk => ?_) (fun i r c u h1 h2 => ?_)⟩
    · rw [hnl] at hk
      obtain ⟨h1, h2, h3⟩ := Rb7 hk
      have := hw (k / es) (k % es) h1 (by omega)
      rw [hbes, h3] at this
      exact this
    · obtain ⟨hi, hgi⟩ := hget i r h1
      subst hgi
      have hcl := (List.getElem?_eq_some_iff.1 h2).1
      have hce : c < es := by rw [← hbes, ← hes' i hi]; exact hcl
      have hd1 : (i * es + c) / es = i := by
        rw [Nat.mul_comm, Nat.mul_add_div (by omega), Nat.div_eq_of_lt hce]; omega
      have hd2 : (i * es + c) % es = c := by rw [Nat.mul_comm, Nat.mul_add_mod, Nat.mod_eq_of_lt hce]
      have := hr i c hi hcl
      rw [List.getElem?_eq_getElem hcl] at h2
      injection h2 with h2
      simp only [hd1, hd2]
      rw [← h2]
      exact this
    | nil =>
      subst he
      exact ⟨[], fun i r h => by simp at h, by simp, .inl ⟨rfl, rfl⟩, fun i r c u h => by simp at h, fun u h => by simp at h⟩
  | v u =>
    intro hy he
    have e := Q6 hy
    unfold elemsOf at he
    split at he
    · cases ‹a7.v u = _›
    · cases ‹a7.v u = _›
    · rename_i heq
      injection heq with heq
      injection he with he
      subst he
      exact ⟨[], fun i r h => by simp at h, by simp, .inl ⟨by rw [e, heq], rfl⟩, fun i r c u h => by simp at h, fun u h => by simp at h⟩
    · rename_i heq
      injection heq with heq
      injection he with he
      subst he
      exact ⟨[], fun i r h => by simp at h, by simp, .inr ⟨_, _, by rw [e, heq]; rfl, fun h => absurd h (by simp), fun j v h => by simp at h⟩, fun i r c u h => by simp at h, fun u h => by simp at h⟩
    · cases he
  | _ => intro _ he; cases he
end
end Go.Ev
namespace Go.Ev
open Go
section
variable {W : Nat → Prop} {ρ : Rho} {H H' : List a8} {F : Fz} {w : World} {E : Env} {o : Oper} {a : List a7} {ac : Act} {x : a7}
theorem W9 {P : Program} {t e : TypeId} {i : TypeInfo} (ty : TypeId) (ht : P.underlying t = some (.slice e)) (hi : P.info? e = some i) (base xa : Option Addr) (n cap c : Nat) (hn : n ≤ cap) (w : World) :
  (Builtin.append_ #[t, t] ty #[.slice base n cap, .slice xa 0 c]).run P w = .ok (.slice base n cap) w := by
 cases xa <;> cases base <;> simp [Builtin.append_, run_underlying ht, sizeOf, typeInfo, hi, Builtin.lenOf, Builtin.firstCells, hn, storeCells, Go.loadCells, loadCellsFrom]
theorem Xb3 {P : Program} {dT sT e : TypeId} {i : TypeInfo} (ty : TypeId) (hu : P.underlying dT = some (.slice e)) (hi : P.info? e = some i) (g off dLen dCap : Nat) (x' : Value) (sl : Nat) (cur : Array Value) (t : TypeId) (nv : List Value)
  (hg : w.heap[g]? = some (.cells cur t (0, 0))) (hx : (x' = .slice none 0 0 ∧ sl = 0) ∨ ∃ ad cap, x' = .slice (some ad) sl cap ∧ ∀ j v, nv[j]? = some v → w.cell? (ad.add j) = some v)
  (hl : Nat.min sl dLen * i.size ≤ nv.length) (hfit : off + Nat.min sl dLen * i.size ≤ cur.size) (h1 : ∀ v ∈ nv, v.oneCell' = true) :
  (Builtin.copy_ #[dT, sT] ty #[.slice (some ⟨g, off, none⟩) dLen dCap, x']).run P w = .ok (.int .i64 (Nat.min sl dLen)) (w.setRow g (cur.toList.take off ++ nv.take (Nat.min sl dLen * i.size) ++ cur.toList.drop (off + Nat.min sl dLen * i.size)).toArray) := by
 have hnl : (nv.take (Nat.min sl dLen * i.size)).length = Nat.min sl dLen * i.size := by simp; omega
 have hst := run_storeCells_at (P := P) g off t (nv.take (Nat.min sl dLen * i.size)) 0 cur w hg (by rw [hnl]; simpa using hfit) (fun v hv => h1 v (List.mem_of_mem_take hv))
 simp only [Nat.add_zero, hnl] at hst
 rcases hx with ⟨rfl, rfl⟩ | ⟨ad, cap, rfl, hc⟩
 ·have h0 : Nat.min 0 dLen = 0 := by simp
  simp only [h0, Nat.zero_mul, List.take_zero] at hst ⊢
  simp [Builtin.copy_, run_underlying hu, sizeOf, typeInfo, hi, Builtin.lenOf, Builtin.firstCells, hst, goInt]
 ·have hlc : (Go.loadCells ad (Nat.min sl dLen * i.size)).run P w = .ok (nv.take (Nat.min sl dLen * i.size)).toArray w := by
   have := run_loadCells_list (P := P) w ad (nv.take (Nat.min sl dLen * i.size)) fun j v hj => by
    rw [List.getElem?_take] at hj
    split at hj
    ·exact hc j v hj
    ·cases hj
   rwa [hnl] at this
  simp [Builtin.copy_, run_underlying hu, sizeOf, typeInfo, hi, Builtin.lenOf, Builtin.firstCells, hlc, hst, goInt]
theorem Ob4 {P : Program} {dT sT e : TypeId} {i : TypeInfo} (ty : TypeId) (hu : P.underlying dT = some (.slice e)) (hi : P.info? e = some i) (ad : Addr) (dLen dCap : Nat) (x' : Value) (sl : Nat)
  (hx : (x' = .slice none 0 0 ∧ sl = 0) ∨ ∃ ad cap, x' = .slice (some ad) sl cap) (hm : Nat.min sl dLen = 0) :
  (Builtin.copy_ #[dT, sT] ty #[.slice (some ad) dLen dCap, x']).run P w = .ok (.int .i64 0) w := by
 rcases hx with ⟨rfl, rfl⟩ | ⟨ad', cap, rfl⟩
 ·simp [Builtin.copy_, run_underlying hu, sizeOf, typeInfo, hi, Builtin.lenOf, Builtin.firstCells, goInt, storeCells]
 ·simp [Builtin.copy_, run_underlying hu, sizeOf, typeInfo, hi, Builtin.lenOf, Builtin.firstCells, goInt, storeCells, hm, Go.loadCells, loadCellsFrom]
section
variable (hA : ca7 ρ H F w a ac.tmps) (hH : r8 W ρ H F w) (hG : GOk E F w)
include hA hH hG
theorem Xb4 {t e : TypeId} {y z : Operand} {c : Call} (ho : o.op = .call c) (hcb : c.callee = .builtin .append) (hca : c.args = #[y, z]) (hct : c.argTypes = #[t, t])
  (hu : E.P.underlying t = some (.slice e)) {ei : TypeInfo} (hei : E.P.info? e = some ei) {zv : Value} (hz : ei.zero = some zv) (hzs : zv.cells.size = ei.size) (hes : 0 < ei.size) (hbp : 0 < ei.bytes) (het : e ≠ 0)
  (he : (evalOp E a H (.append e (szT E.P e) (byT E.P e) (f0 y) (f0 z))).run = some (x, H')) : i5 E.P o ac w (J3 W ρ H F w x H') := by
 have hy := j5 hA hG y
 have hzr := j5 hA hG z
 have hes' : szT E.P e = ei.size := by simp [szT, hei]
 have hby : byT E.P e = ei.bytes := by simp [byT, hei]
 rw [hes', hby] at he
 simp only [evalOp, appendA] at he
 cases hel : elemsOf ei.size H (a9 E a (f0 z)) with
 | none => simp [hel] at he
 | some news =>
 simp only [hel, j7] at he
 obtain ⟨nv, hN⟩ := jb7 hH hzr hel
 have hrun : ∀ {r : Value} {w' : World}, (Builtin.append_ #[t, t] o.type #[ac.eval y, ac.eval z]).run E.P w = .ok r w' → (execOp ac.eval o).run E.P w = .ok (.value r) w' := fun {r w'} h => by
  unfold execOp
  simp [ho, hcb, hca, hct, resolve, invoke, builtin, h]
 have hmax : ∀ m, m * ei.bytes ≤ room → m ≤ maxLen := fun m h => by
  have : m ≤ room := Nat.le_trans (Nat.le_mul_of_pos_right m hbp) h
  unfold room at this
  unfold maxLen
  omega
 revert he hy
 generalize a9 E a (f0 y) = p
 intro hy he
 split at he
 ·-- nil
  have e0 := Q6 hy
  rcases DT.run_ite_some he with ⟨h0, he⟩ | ⟨h0, he⟩
  ·have h0 := Nat.eq_of_beq_eq_true h0
   have he' := Option.some.inj he
   injection he' with e1 e2; subst e1 e2
   have hnil : news = [] := List.eq_nil_of_length_eq_zero h0
   rcases hN.form with ⟨hx, _⟩ | ⟨ad, cap, hx, _, _⟩
   ·exact .value (hrun (by rw [e0, hx]; exact W9 _ hu hei none none 0 0 0 (Nat.le_refl _) w)) (.stay hH (.ofv _))
   ·exact .value (hrun (by rw [e0, hx, h0]; exact W9 _ hu hei none (some ad) 0 0 cap (Nat.le_refl _) w)) (.stay hH (.ofv _))
  ·have h0 : news.length ≠ 0 := Nat.ne_of_beq_eq_false h0
   obtain ⟨hb, he⟩ := DT.run_guard_some he
   have hb : news.length * ei.bytes ≤ room := Nat.le_of_ble_eq_true hb
   have he' := Option.some.inj he
   injection he' with e1 e2; subst e1 e2
   rcases hN.form with ⟨_, hx⟩ | ⟨ad, cap, hx, hsp, hcells⟩
   ·simp [hx] at h0
   ·obtain ⟨v', w', hr, hown, hgrow, _, hblk⟩ := run_append_own_at (P := E.P) w w.heap.size t o.type e ei zv ei.size ei.bytes hu hei hz rfl rfl hzs hes (.slice none 0 0) 0 [] ⟨by simp, .inl ⟨rfl, rfl⟩⟩
     ad news.length cap nv hN.len hcells hN.one (by rw [Nat.zero_add]; exact hmax _ hb) (by rw [Nat.zero_add]; exact hb) (Nat.le_refl _)
    rcases hown.2 with ⟨_, h1⟩ | ⟨gb, cap', cur, rfl, hbg, hg, hnc, hcm, hcs, htake⟩
    ·omega
    have hcur : ∀ (j : Nat) u, nv[j]? = some u → cur[j]? = some u := fun j u hj => by
     have hlt := (List.getElem?_eq_some_iff.1 hj).1
     have h2 : (cur.toList.take ((0 + news.length) * ei.size))[j]? = some u := by rw [htake]; simpa using hj
     rw [List.getElem?_take] at h2
     split at h2
     ·simpa using h2
     ·cases h2
    obtain ⟨h3, h4⟩ := hH.newAt hgrow.os hgrow.tape hgrow.output (Rb3 _ _ _ hr) hgrow.size (fun k hk => hgrow.block k hk (by simp [Value.ownBlock])) gb hbg e ei.size news cur e hg hN.rows
     (by rw [hcs]; exact Nat.mul_le_mul_right _ (by omega)) (fun i r c u h1 h2 => by obtain ⟨u', h5, h6⟩ := hN.cell i r c u h1 h2; exact ⟨u', hcur _ _ h5, h6⟩) (fun _ => rfl)
    refine .value (hrun (by rw [e0, hx]; exact hr)) ?_
    rw [ub5]
    refine ⟨_, F, h3, h4, .val (.cell ?_)⟩
    rw [Nat.zero_add]
    refine .sl _ _ _ _ _ _ { et := e, es := ei.size, elems := news, own := true, dead := false, g := 0 } (by simp) rfl (Nat.le_refl _) (by omega) rfl hcm fun _ => ⟨.inr ?_, ?_, by simp⟩
    ·simp [ρnew]
    ·simp [ρnew, hcs]
 ·-- a slice of its own
  rename_i id off n g
  cases hbk : blkAt H id g with
  | none => simp [hbk] at he
  | some b =>
  obtain ⟨hb, hd, hg⟩ := q7 hbk
  simp only [hbk] at he
  cases hc4 : (b.own && Nat.beq off 0 && Nat.beq b.es ei.size && Nat.beq b.et e) with
  | false => simp [hc4] at he
  | true =>
  simp only [hc4] at he
  simp only [Bool.and_eq_true] at hc4
  obtain ⟨⟨⟨hown0, hoff⟩, hbes⟩, hbet⟩ := hc4
  have hoff := Nat.eq_of_beq_eq_true hoff
  have hbes := Nat.eq_of_beq_eq_true hbes
  have hbet := Nat.eq_of_beq_eq_true hbet
  subst hoff
  obtain ⟨ad0, cap0, b', e0, hb', hd', hg', hn, hspot, hcm0, hh⟩ := ka8 hy
  have : b' = b := Option.some.inj (hb'.symm.trans hb)
  subst this
  obtain ⟨h3, h4, h5⟩ := hh hg
  rcases DT.run_ite_some he with ⟨h0, he⟩ | ⟨h0, he⟩
  ·have h0 := Nat.eq_of_beq_eq_true h0
   have he' := Option.some.inj he
   injection he' with e1 e2; subst e1 e2
   rcases hN.form with ⟨hx, _⟩ | ⟨ad, cap, hx, _, _⟩
   ·exact .value (x' := ac.eval y) (hrun (by rw [e0, hx]; exact W9 _ hu hei (some ad0) none n cap0 0 hn w)) (.stay hH hy)
   ·exact .value (x' := ac.eval y) (hrun (by rw [e0, hx, h0]; exact W9 _ hu hei (some ad0) (some ad) n cap0 cap hn w)) (.stay hH hy)
  ·have h0 : news.length ≠ 0 := Nat.ne_of_beq_eq_false h0
   obtain ⟨hbb, he⟩ := DT.run_guard_some he
   simp only [Bool.and_eq_true] at hbb
   obtain ⟨hnl, hbb⟩ := hbb
   have hnl := Nat.eq_of_beq_eq_true hnl
   have hbb : (n + news.length) * ei.bytes ≤ room := Nat.le_of_ble_eq_true hbb
   have he' := Option.some.inj he
   injection he' with e1 e2; subst e1 e2
   rw [y7, B4]
   rcases hN.form with ⟨_, hx⟩ | ⟨ad, cap, hx, hsp, hcells⟩
   ·simp [hx] at h0
   obtain ⟨cc, tt, fr, hB⟩ := hH.blk id b' hb hd
   obtain ⟨hfr, hW, hoff0, hsize, hnF, htt⟩ := hB.own hown0
   subst hfr
   have htt' : tt = e := by rw [← hbet]; exact htt (by rw [hbet]; exact het)
   have had : ad0 = ⟨(ρ id).blk, 0, none⟩ := by
    have := h3.resolve_left (by omega)
    rw [this, hoff0]; simp
   have hcap : cap0 * ei.size = cc.size := by rw [← hsize, ← h4, hbes]; simp
   have hxl : (cc.toList.take (n * ei.size)).length = n * ei.size := by
    have : n * ei.size ≤ cap0 * ei.size := Nat.mul_le_mul_right _ hn
    simp; omega
   obtain ⟨v', w', hr, hown, hgrow, _, hblk⟩ := run_append_own_at (P := E.P) w 0 t o.type e ei zv ei.size ei.bytes hu hei hz rfl rfl hzs hes (.slice (some ⟨(ρ id).blk, 0, none⟩) n cap0) n (cc.toList.take (n * ei.size))
    ⟨hxl, .inr ⟨(ρ id).blk, cap0, cc, rfl, Nat.zero_le _, by rw [← htt']; exact hB.obj, hn, hcm0, hcap.symm, rfl⟩⟩
    ad news.length cap nv hN.len hcells hN.one (hmax _ hbb) hbb (Nat.zero_le _)
   rcases hown.2 with ⟨_, h1⟩ | ⟨gb, cap', cur, rfl, _, hgo, hnc, hcm, hcs, htake⟩
   ·omega
   have hgb : gb = (ρ id).blk ∨ w.heap.size ≤ gb := by
    rcases hblk with h | h <;> simp [Value.ownBlock] at h <;> omega
   have hcur : ∀ (j : Nat) u, (cc.toList.take (n * ei.size) ++ nv)[j]? = some u → cur[j]? = some u := fun j u hj => by
    rw [← htake, List.getElem?_take] at hj
    split at hj
    ·simpa using hj
    ·cases hj
   have hoffz : (ρ id).off = 0 := hoff0
   obtain ⟨h6, h7⟩ := hH.moveAt id b' { b' with elems := b'.elems ++ news, g := g + 1 } hb hd hown0 hgrow.os hgrow.tape hgrow.output (Rb3 _ _ _ hr) hgrow.size
    (fun k hk hne => hgrow.block k hk (by simp [Value.ownBlock]; exact hne)) gb hgb cur e hgo hown0 hd (by simp; omega) (fun _ => hbet.symm)
    (fun i r hr => by
     simp only at hr ⊢
     rcases Nat.lt_or_ge i b'.elems.length with hi | hi
     ·rw [List.getElem?_append_left hi] at hr; exact hB.rows i r hr
     ·rw [List.getElem?_append_right hi] at hr; rw [hbes]; exact hN.rows _ r hr)
    (by simp only [List.length_append]; rw [hbes, hcs, ← hnl]; exact Nat.mul_le_mul_right _ hnc)
    (fun i r k u hr hu => by
     simp only at hr ⊢
     rcases Nat.lt_or_ge i b'.elems.length with hi | hi
     ·rw [List.getElem?_append_left hi] at hr
      obtain ⟨u', h8, h9⟩ := hB.cell i r k u hr hu
      rw [hoffz, Nat.zero_add] at h8
      have hk : k < ei.size := by rw [← hbes, ← hB.rows i r hr]; exact (List.getElem?_eq_some_iff.1 hu).1
      have hlt : i * b'.es + k < n * ei.size := by
       have := Nat.mul_le_mul_right ei.size (show i + 1 ≤ n by omega)
       rw [Nat.add_mul, Nat.one_mul] at this
       rw [hbes]; omega
      refine ⟨u', hcur _ _ ?_, h9⟩
      rw [List.getElem?_append_left (by omega), List.getElem?_take, if_pos hlt]
      simpa using h8
     ·rw [List.getElem?_append_right hi] at hr
      obtain ⟨u', h8, h9⟩ := hN.cell _ r k u hr hu
      refine ⟨u', hcur _ _ ?_, h9⟩
      have e9 : i * b'.es = n * ei.size + (i - b'.elems.length) * ei.size := by rw [← Nat.add_mul, hbes]; congr 1; omega
      rw [List.getElem?_append_right (by omega), hxl, show i * b'.es + k - n * ei.size = (i - b'.elems.length) * ei.size + k by omega]
      exact h8)
   have hid : id < H.length := (List.getElem?_eq_some_iff.1 hb).1
   refine .value (hrun (by rw [e0, had, hx]; exact hr)) ⟨_, F, h6, h7, .val (.cell (.sl _ _ _ _ _ _ { b' with elems := b'.elems ++ news, g := g + 1 } (by simp [hid]) hd (Nat.le_refl _) hnc rfl hcm fun _ => ⟨.inr ?_, ?_, by simp; omega⟩))⟩
   ·simp [ρset]
   ·simp only [ρset, if_true, Nat.zero_add, hbes, hcs]
 ·cases he
theorem qc1 {dT sT e : TypeId} {y z : Operand} {c : Call} (ho : o.op = .call c) (hcb : c.callee = .builtin .copy) (hca : c.args = #[y, z]) (hct : c.argTypes = #[dT, sT])
  (hu : E.P.underlying dT = some (.slice e)) {ei : TypeInfo} (hei : E.P.info? e = some ei)
  (he : (evalOp E a H (.copy (szT E.P e) (f0 y) (f0 z))).run = some (x, H')) : i5 E.P o ac w (J3 W ρ H F w x H') := by
 have hy := j5 hA hG y
 have hzr := j5 hA hG z
 have hes' : szT E.P e = ei.size := by simp [szT, hei]
 rw [hes'] at he
 simp only [evalOp] at he
 have he := Na8 he
 have hrun : ∀ {r : Value} {w' : World}, (Builtin.copy_ #[dT, sT] o.type #[ac.eval y, ac.eval z]).run E.P w = .ok r w' → (execOp ac.eval o).run E.P w = .ok (.value r) w' := fun {r w'} h => by
  unfold execOp
  simp [ho, hcb, hca, hct, resolve, invoke, builtin, h]
 revert he hy
 generalize a9 E a (f0 y) = p
 intro hy he
 unfold copyA at he
 split at he
 ·rename_i id off n g
  cases hbk : blkAt H id g with
  | none => simp [hbk] at he
  | some b =>
  obtain ⟨hb, hd, hg⟩ := q7 hbk
  simp only [hbk] at he
  cases hel : elemsOf ei.size H (a9 E a (f0 z)) with
  | none => simp [hel] at he
  | some news =>
  simp only [hel] at he
  cases hc4 : (b.own && Nat.beq b.es ei.size) with
  | false => simp [hc4] at he
  | true =>
  simp only [hc4] at he
  simp only [Bool.and_eq_true] at hc4
  obtain ⟨hown, hbes⟩ := hc4
  have hbes := Nat.eq_of_beq_eq_true hbes
  injection he with he; injection he with e1 e2; subst e1 e2
  rw [y7, B4, B4, E3, E3, E4, j7]
  obtain ⟨nv, hN⟩ := jb7 hH hzr hel
  obtain ⟨ad, cap, b', e0, hb', hd', hg', hn, hspot, hcm0, hh⟩ := ka8 hy
  have : b' = b := Option.some.inj (hb'.symm.trans hb)
  subst this
  obtain ⟨h3, h4, h5⟩ := hh hg
  obtain ⟨cc, tt, fr, hB⟩ := hH.blk id b' hb hd
  obtain ⟨hfr, hW, hoff0, hsize, hnF, htt⟩ := hB.own hown
  subst hfr
  have hmn : Nat.min news.length n ≤ news.length := Nat.min_le_left _ _
  have hmd : Nat.min news.length n ≤ n := Nat.min_le_right _ _
  generalize hm : Nat.min news.length n = m at *
  have hid : id < H.length := (List.getElem?_eq_some_iff.1 hb).1
  have hlenB := hB.len
  have hfit : off * ei.size + m * ei.size ≤ cc.size := by
   have h8 : (off + n) * ei.size ≤ b'.elems.length * b'.es := by rw [hbes]; exact Nat.mul_le_mul_right _ h5
   have h9 : m * ei.size ≤ n * ei.size := Nat.mul_le_mul_right _ hmd
   rw [Nat.add_mul] at h8
   omega
  have hnvl : m * ei.size ≤ nv.length := by rw [hN.len]; exact Nat.mul_le_mul_right _ hmn
  have hxf : (ac.eval z = .slice none 0 0 ∧ news.length = 0) ∨ ∃ ad cap, ac.eval z = .slice (some ad) news.length cap ∧ ∀ j v, nv[j]? = some v → w.cell? (ad.add j) = some v := by
   rcases hN.form with ⟨h1, h2⟩ | ⟨ad, cap, h1, _, h2⟩
   ·exact .inl ⟨h1, by simp [h2]⟩
   ·exact .inr ⟨ad, cap, h1, h2⟩
  rcases Nat.eq_zero_or_pos m with hm0 | hm0
  ·subst hm0
   have hxf' : (ac.eval z = .slice none 0 0 ∧ news.length = 0) ∨ ∃ ad cap, ac.eval z = .slice (some ad) news.length cap := by
    rcases hxf with h | ⟨ad, cap, h, _⟩
    ·exact .inl h
    ·exact .inr ⟨ad, cap, h⟩
   have hr := Ob4 (P := E.P) (w := w) (dT := dT) (sT := sT) o.type hu hei ad n cap (ac.eval z) news.length hxf' hm
   have hset : H.set id { b' with elems := b'.elems.take off ++ (news.take 0 ++ b'.elems.drop (off + 0)) } = H := by
    have : ({ b' with elems := b'.elems.take off ++ (news.take 0 ++ b'.elems.drop (off + 0)) } : a8) = b' := by
     simp
    rw [this]
    apply List.ext_getElem?
    intro k
    rcases Nat.lt_or_ge k H.length with hk | hk
    ·by_cases e : id = k
     ·subst e; rw [List.getElem?_set_self hk, hb]
     ·rw [List.getElem?_set_ne e]
    ·rw [List.getElem?_eq_none hk, List.getElem?_eq_none (by simpa using hk)]
   rw [hset]
   exact .value (hrun (by rw [e0]; exact hr)) (.stay hH (.ofv _))
  ·have had : ad = ⟨(ρ id).blk, off * ei.size, none⟩ := by
    have := h3.resolve_left (by omega)
    rw [this, hoff0, hbes]; simp
   have hr := Xb3 (P := E.P) (w := w) (dT := dT) (sT := sT) o.type hu hei (ρ id).blk (off * ei.size) n cap (ac.eval z) news.length cc tt nv hB.obj hxf (by rw [hm]; exact hnvl) (by rw [hm]; exact hfit) hN.one
   rw [hm] at hr
   have hnvt : (nv.take (m * ei.size)).length = m * ei.size := by simp; omega
   have hmul : ∀ i k, k < ei.size → i < b'.elems.length → i * ei.size + k < cc.size := fun i k hk hi => by
    have := Nat.mul_le_mul_right ei.size (show i + 1 ≤ b'.elems.length from hi)
    rw [Nat.add_mul, Nat.one_mul] at this
    rw [hbes] at hlenB
    omega
   have hel2 : (b'.elems.take off ++ (news.take m ++ b'.elems.drop (off + m))).length = b'.elems.length := by simp; omega
   have hget : ∀ (i : Nat) r, (b'.elems.take off ++ (news.take m ++ b'.elems.drop (off + m)))[i]? = some r → (off ≤ i ∧ i < off + m ∧ news[i - off]? = some r) ∨ ((i < off ∨ off + m ≤ i) ∧ b'.elems[i]? = some r) := fun i r hr => by
    rcases Nat.lt_or_ge i off with hi | hi
    ·rw [List.getElem?_append_left (by simp; omega), List.getElem?_take, if_pos hi] at hr
     exact .inr ⟨.inl hi, hr⟩
    ·rw [List.getElem?_append_right (by simp; omega)] at hr
     have e9 : i - (b'.elems.take off).length = i - off := by simp; omega
     rw [e9] at hr
     rcases Nat.lt_or_ge i (off + m) with hi2 | hi2
     ·rw [List.getElem?_append_left (by simp; omega), List.getElem?_take, if_pos (by omega)] at hr
      exact .inl ⟨hi, hi2, hr⟩
     ·rw [List.getElem?_append_right (by simp; omega), List.getElem?_drop] at hr
      have e10 : off + m + (i - off - (news.take m).length) = i := by simp; omega
      rw [e10] at hr
      exact .inr ⟨.inr hi2, hr⟩
   obtain ⟨h6, h7⟩ := hH.rewrite id b' { b' with elems := b'.elems.take off ++ (news.take m ++ b'.elems.drop (off + m)) } hb hd hown cc tt hB
    (cc.toList.take (off * ei.size) ++ nv.take (m * ei.size) ++ cc.toList.drop (off * ei.size + m * ei.size)).toArray
    (by simp; omega) rfl rfl hown hd (Nat.le_refl _) (fun _ => by simp only; omega) (by simp only; rw [hel2]; exact hlenB)
    (fun i r hr => by
     rcases hget i r hr with ⟨h1, h2, h8⟩ | ⟨_, h8⟩
     ·rw [hbes]; exact hN.rows _ r h8
     ·exact hB.rows i r h8)
    (fun i r k u hr hu => by
     have hsa := Qa5 (l := cc) (new := nv.take (m * ei.size)) (c := off * ei.size) (k := i * b'.es + k) (by rw [hnvt]; exact hfit)
     rw [hnvt] at hsa
     rw [hsa, hbes]
     rcases hget i r hr with ⟨h1, h2, h8⟩ | ⟨h1, h8⟩
     ·have hk : k < ei.size := by rw [← hN.rows _ r h8]; exact (List.getElem?_eq_some_iff.1 hu).1
      obtain ⟨u', h9, h10⟩ := hN.cell _ r k u h8 hu
      have e11 : i * ei.size = off * ei.size + (i - off) * ei.size := by rw [← Nat.add_mul]; congr 1; omega
      have e12 : (i - off) * ei.size + k < m * ei.size := by
       have := Nat.mul_le_mul_right ei.size (show i - off + 1 ≤ m by omega)
       rw [Nat.add_mul, Nat.one_mul] at this
       omega
      rw [if_pos (by omega)]
      refine ⟨u', ?_, h10⟩
      rw [show i * ei.size + k - off * ei.size = (i - off) * ei.size + k by omega, List.getElem?_take, if_pos e12]
      exact h9
     ·have hk : k < ei.size := by rw [← hbes, ← hB.rows _ r h8]; exact (List.getElem?_eq_some_iff.1 hu).1
      obtain ⟨u', h9, h10⟩ := hB.cell i r k u h8 hu
      rw [hoff0, Nat.zero_add, hbes] at h9
      have hnot : ¬ (off * ei.size ≤ i * ei.size + k ∧ i * ei.size + k < off * ei.size + m * ei.size) := by
       rcases h1 with h1 | h1
       ·have := Nat.mul_le_mul_right ei.size (show i + 1 ≤ off from h1)
        rw [Nat.add_mul, Nat.one_mul] at this
        omega
       ·have := Nat.mul_le_mul_right ei.size h1
        rw [Nat.add_mul] at this
        omega
      rw [if_neg hnot]
      exact ⟨u', h9, h10⟩)
   exact .value (hrun (by rw [e0, had]; exact hr)) ⟨ρ, F, h6, h7, .ofv _⟩
 ·cases he
end
end
end Go.Ev
namespace Go.Ev
open Go
section
variable {W : Nat → Prop} {ρ : Rho} {H H' : List a8} {F : Fz} {w : World} {E : Env} {o : Oper} {a : List a7} {ac : Act} {x : a7}
theorem ec8 (off : Nat) : ∀ (l : List Value) (s : Nat) (cells : Array Value) (k : Nat), off + s + l.length ≤ cells.size →
  ((l.zipIdx s).foldl (fun cs (p : Value × Nat) => cs.setIfInBounds (off + p.2) p.1) cells).size = cells.size ∧
  ((l.zipIdx s).foldl (fun cs (p : Value × Nat) => cs.setIfInBounds (off + p.2) p.1) cells)[k]? = if off + s ≤ k ∧ k < off + s + l.length then l[k - (off + s)]? else cells[k]?
 | [], s, cells, k, _ => by
  refine ⟨rfl, ?_⟩
  rw [if_neg (by simp)]
  rfl
 | v :: l, s, cells, k, h => by
  have ih := ec8 off l (s + 1) (cells.setIfInBounds (off + s) v) k (by simp at h ⊢; omega)
  simp only [List.zipIdx_cons, List.foldl_cons]
  refine ⟨ih.1.trans (by simp), ih.2.trans ?_⟩
  simp only [List.length_cons] at h ⊢
  by_cases h1 : off + (s + 1) ≤ k ∧ k < off + (s + 1) + l.length
  ·rw [if_pos h1, if_pos (by omega), show k - (off + s) = (k - (off + (s + 1))) + 1 by omega]
   rfl
  ·rw [if_neg h1]
   by_cases h2 : k = off + s
   ·subst h2
    have hlt : off + s < cells.size := by omega
    rw [if_pos (by omega)]
    simp [hlt]
   ·rw [if_neg (by omega), Array.getElem?_setIfInBounds_ne (by omega)]
theorem Bc8 (cells : Array Value) (vs : Array Value) (off k : Nat) (h : off + vs.size ≤ cells.size) :
  (vs.zipIdx.foldl (fun cs (p : Value × Nat) => cs.setIfInBounds (off + p.2) p.1) cells).size = cells.size ∧
  (vs.zipIdx.foldl (fun cs (p : Value × Nat) => cs.setIfInBounds (off + p.2) p.1) cells)[k]? = if off ≤ k ∧ k < off + vs.size then vs[k - off]? else cells[k]? := by
 have := ec8 off vs.toList 0 cells k (by simpa using h)
 rw [← Array.foldl_toList]
 simpa using this
theorem Xb5 (place : Nat → Option (Nat × Nat)) : ∀ (parts : List (Nat × Nat × a7)) (parts' : List (Nat × Value)) (cells : List a7) (cells' : Array Value) (cs : List a7),
  parts.length = parts'.length → (∀ (i : Nat) p p', parts[i]? = some p → parts'[i]? = some p' → place p'.1 = some (p.1, p.2.1) ∧ y8 ρ H F w p.2.2 p'.2) →
  cells.length = cells'.size → (∀ (i : Nat) x x', cells[i]? = some x → cells'[i]? = some x' → P6 ρ H F w x x') → Wa8 cells parts = some cs →
  ∃ cs', Instr.fill place cells' parts' = some cs' ∧ cs'.size = cells'.size ∧ cs.length = cells.length ∧ ∀ (i : Nat) x x', cs[i]? = some x → cs'[i]? = some x' → P6 ρ H F w x x'
 | [], parts', cells, cells', cs, hl, _, hc, hr, he => by
  have : parts' = [] := List.eq_nil_of_length_eq_zero (by simpa using hl.symm)
  subst this
  simp only [Wa8] at he
  injection he with he
  subst he
  exact ⟨cells', rfl, rfl, rfl, hr⟩
 | (off, size, y) :: parts, parts', cells, cells', cs, hl, hp, hc, hr, he => by
  cases parts' with
  | nil => simp at hl
  | cons p' parts' =>
  obtain ⟨i0, y'⟩ := p'
  obtain ⟨hpl, hy⟩ := hp 0 _ _ rfl rfl
  simp only at hpl hy
  simp only [Wa8, j7] at he
  cases hb : (sa6 y && Nat.beq (z6 y).length size && Nat.ble (off + size) cells.length) with
  | false => simp [hb] at he
  | true =>
  simp only [hb] at he
  simp only [Bool.and_eq_true] at hb
  obtain ⟨⟨h1, h2⟩, h3⟩ := hb
  have h2 := Nat.eq_of_beq_eq_true h2
  have h3 : off + size ≤ cells.length := Nat.le_of_ble_eq_true h3
  obtain ⟨h4, h5⟩ := db0 hy h1
  have h4' : (z6 y).length = y'.cells.size := by simpa using h4
  have hfit : off + (z6 y).length ≤ cells.length := by omega
  have hstep := fun k => Bc8 cells' y'.cells off k (by omega)
  obtain ⟨cs', h6, h7, h8, h9⟩ := Xb5 place parts parts' (aa4 cells off (z6 y)) (y'.cells.zipIdx.foldl (fun cs (p : Value × Nat) => cs.setIfInBounds (off + p.2) p.1) cells') cs
   (by simpa using hl) (fun i p p' h h' => hp (i + 1) p p' (by simpa using h) (by simpa using h')) (by rw [ua9 hfit, (hstep 0).1]; exact hc)
   (fun k u u' hu hu' => by
    rw [(hstep k).2] at hu'
    rcases jb6 hfit hu with ⟨g1, g2, g3⟩ | ⟨g1, g3⟩
    ·rw [if_pos (by omega)] at hu'
     exact h5 _ u u' g3 (by simpa using hu')
    ·rw [if_neg (by omega)] at hu'
     exact hr k u u' g3 hu') he
  refine ⟨cs', ?_, h7.trans (hstep 0).1, by rw [h8, ua9 hfit], h9⟩
  unfold Instr.fill
  simp only [hpl]
  rw [if_neg (by simp; omega)]
  exact h6
theorem Rb8 {P : Program} {t : TypeId} : ∀ {ps : List (Nat × Operand)} {l : List (Nat × Nat × Arg)}, ya4 P t ps = some l →
  l.length = ps.length ∧ ∀ (i : Nat) p q, l[i]? = some p → ps[i]? = some q → jb5 P t q.1 = some (p.1, p.2.1) ∧ p.2.2 = f0 q.2
 | [], l, h => by
  simp only [ya4] at h
  injection h with h
  subst h
  exact ⟨rfl, fun i p q h => by simp at h⟩
 | (i0, y) :: ps, l, h => by
  simp only [ya4] at h
  cases hp : jb5 P t i0 with
  | none => simp [hp] at h
  | some os =>
  obtain ⟨off, size⟩ := os
  simp only [hp] at h
  cases hc : ya4 P t ps with
  | none => simp [hc] at h
  | some r =>
  simp only [hc] at h
  injection h with h
  subst h
  obtain ⟨h1, h2⟩ := Rb8 hc
  refine ⟨by simp [h1], fun i p q hp' hq => ?_⟩
  cases i with
  | zero => simp at hp' hq; subst hp' hq; exact ⟨hp, rfl⟩
  | succ i => exact h2 i p q (by simpa using hp') (by simpa using hq)
theorem hb8 {α β : Type} {P : Program} (g : α → Sem β) (h : α → β) (w : World) : ∀ (l : List α), (∀ y ∈ l, (g y).run P w = .ok (h y) w) → (l.mapM g).run P w = .ok (l.map h) w
 | [], _ => by simp
 | y :: l, hy => by
  have ih := hb8 g h w l (fun z hz => hy z (by simp [hz]))
  simp [List.mapM_cons, hy y (by simp), ih]
theorem nb8 {α β : Type} {P : Program} (g : α → Sem β) (h : α → β) (w : World) (l : Array α) (hl : ∀ y ∈ l, (g y).run P w = .ok (h y) w) : (l.mapM g).run P w = .ok (l.map h) w := by
 rw [Array.mapM_eq_mapM_toList]
 have := hb8 g h w l.toList (fun y hy => hl y (by simpa using hy))
 simp only [Sem.run_map, this, Result.andThen_ok]
 congr 1
 apply Array.ext'
 simp
section
variable (hA : ca7 ρ H F w a ac.tmps) (hH : r8 W ρ H F w) (hG : GOk E F w)
include hA hH hG
omit hH in
theorem Rb9 {ps : List (Nat × Operand)} {t : TypeId} {l : List (Nat × Nat × Arg)} (hc : ya4 E.P t ps = some l) :
  (o3 (fun p => (p.1, p.2.1, a9 E a p.2.2)) l).length = (ps.map fun p => (p.1, ac.eval p.2)).length ∧
  ∀ (i : Nat) p p', (o3 (fun p => (p.1, p.2.1, a9 E a p.2.2)) l)[i]? = some p → (ps.map fun p => (p.1, ac.eval p.2))[i]? = some p' → jb5 E.P t p'.1 = some (p.1, p.2.1) ∧ y8 ρ H F w p.2.2 p'.2 := by
 obtain ⟨h1, h2⟩ := Rb8 hc
 rw [n7]
 refine ⟨by simp [h1], fun i p p' hp hp' => ?_⟩
 rw [List.getElem?_map] at hp hp'
 cases hl : l[i]? with
 | none => simp [hl] at hp
 | some q =>
 cases hq : ps[i]? with
 | none => simp [hq] at hp'
 | some q' =>
 simp [hl] at hp
 simp [hq] at hp'
 subst hp hp'
 obtain ⟨h3, h4⟩ := h2 i q q' hl hq
 exact ⟨h3, by simp only [h4]; exact j5 hA hG q'.2⟩
omit hA hG hH in
theorem sa9 {t : TypeId} {z : List a7} (hz : zeT E.P t = some z) : ∃ i zv, E.P.info? t = some i ∧ i.zero = some zv ∧ z = zv.cells.toList.map .v ∧ (∀ u ∈ zv.cells.toList, u.oneCell' = true) := by
 unfold zeT at hz
 cases hi : E.P.info? t with
 | none => simp [hi] at hz
 | some i =>
 cases hzz : i.zero with
 | none => simp [hi, hzz] at hz
 | some zv =>
 simp only [hi, hzz] at hz
 split at hz
 ·rename_i hall
  injection hz with hz
  exact ⟨i, zv, rfl, hzz, hz.symm, fun u hu => by rw [← nb5]; exact List.all_eq_true.1 hall u hu⟩
 ·cases hz
theorem ec9 {t : TypeId} {ps : Array (Nat × Operand)} {z : List a7} {l : List (Nat × Nat × Arg)} (ho : o.op = .build t ps) (hz : zeT E.P t = some z) (hc : ya4 E.P t ps.toList = some l) (hall : Wb7 E.P t = true)
  (he : (evalOp E a H (.build z l)).run = some (x, H')) : i5 E.P o ac w (J3 W ρ H F w x H') := by
 simp only [evalOp] at he
 cases hf : Wa8 z (o3 (fun p => (p.1, p.2.1, a9 E a p.2.2)) l) with
 | none => rw [hf] at he; cases he
 | some cs =>
 rw [hf] at he
 have he' := Option.some.inj he
 injection he' with e1 e2; subst e1 e2
 obtain ⟨ti, zv, hi, hzz, rfl, hone⟩ := sa9 hz
 obtain ⟨hl1, hl2⟩ := Rb9 hA hG hc
 have hfill := fun place hpl => Xb5 (ρ := ρ) (H := H) (F := F) (w := w) place _ (ps.toList.map fun p => (p.1, ac.eval p.2)) (zv.cells.toList.map .v) zv.cells cs hl1 hpl (by simp)
  (fun i u u' h h' => by
   rw [List.getElem?_map] at h
   have : zv.cells.toList[i]? = some u' := by simpa using h'
   rw [this] at h
   simp at h
   subst h
   exact .v _) hf
 unfold Wb7 at hall
 cases hu : E.P.underlying t with
 | none => simp [hu] at hall
 | some d =>
 cases d with
 | struct fs =>
  simp only [hu] at hall
  have hmap : (fs.mapM fun f => (do pure (f.offset, ← sizeOf f.type) : Sem (Nat × Nat))).run E.P w = .ok (fs.map fun f => (f.offset, szT E.P f.type)) w := by
   refine nb8 _ _ w fs fun f hf => ?_
   have hsome := Array.all_eq_true_iff_forall_mem.1 hall f hf
   obtain ⟨fi, hfi⟩ := Option.isSome_iff_exists.1 hsome
   simp [sizeOf, typeInfo, hfi, szT]
  obtain ⟨cs', h1, h2, h3, h4⟩ := hfill (fun i => (fs.map fun f => (f.offset, szT E.P f.type))[i]?) (fun i p p' hp hp' => by
   obtain ⟨h1, h2⟩ := hl2 i p p' hp hp'
   refine ⟨?_, h2⟩
   unfold jb5 at h1
   simp only [hu] at h1
   cases hfi : fs[p'.1]? with
   | none => simp [hfi] at h1
   | some f => simp [hfi] at h1 ⊢; exact h1)
  refine .value (x' := .agg cs') (w' := w) ?_ (.stay hH (.val (.agg cs cs' (by rw [h3, h2]; simp) h4)))
  have hps : (ps.map fun (p : Nat × Operand) => (p.1, ac.eval p.2)).toList = ps.toList.map fun p => (p.1, ac.eval p.2) := by simp
  have hb : (Instr.build t (ps.map fun (p : Nat × Operand) => (p.1, ac.eval p.2))).run E.P w = .ok (.agg cs') w := by
   unfold Instr.build
   simp only [Sem.run_bind, zeroValue, typeInfo, run_program, Result.andThen_ok, hi, Sem.run_pure, hzz, run_underlying hu, hmap, hps, h1]
  simp only [execOp, ho, Sem.run_bind, hb, Result.andThen_ok, Sem.run_pure]
 | array n e =>
  simp only [hu] at hall
  obtain ⟨ei, hei⟩ := Option.isSome_iff_exists.1 hall
  obtain ⟨cs', h1, h2, h3, h4⟩ := hfill (fun i => some (i * ei.size, ei.size)) (fun i p p' hp hp' => by
   obtain ⟨h1, h2⟩ := hl2 i p p' hp hp'
   refine ⟨?_, h2⟩
   unfold jb5 at h1
   simp only [hu, szT, hei] at h1
   exact h1)
  refine .value (x' := .agg cs') (w' := w) ?_ (.stay hH (.val (.agg cs cs' (by rw [h3, h2]; simp) h4)))
  have hps : (ps.map fun (p : Nat × Operand) => (p.1, ac.eval p.2)).toList = ps.toList.map fun p => (p.1, ac.eval p.2) := by simp
  have hb : (Instr.build t (ps.map fun (p : Nat × Operand) => (p.1, ac.eval p.2))).run E.P w = .ok (.agg cs') w := by
   unfold Instr.build
   simp only [Sem.run_bind, zeroValue, typeInfo, run_program, Result.andThen_ok, hi, Sem.run_pure, hzz, run_underlying hu, sizeOf, hei, hps, h1]
  simp only [execOp, ho, Sem.run_bind, hb, Result.andThen_ok, Sem.run_pure]
 | _ => simp [hu] at hall
omit hA hG hH in
theorem Fb2 (es : Nat) : ∀ (n : Nat) (l : List a7), n * es ≤ l.length → (fa5 es n l).length = n ∧ ∀ (i : Nat) r, (fa5 es n l)[i]? = some r → r = (l.drop (i * es)).take es ∧ i < n
 | 0, l, _ => ⟨rfl, fun i r h => by simp [fa5] at h⟩
 | n + 1, l, h => by
  rw [Nat.add_mul, Nat.one_mul] at h
  obtain ⟨h1, h2⟩ := Fb2 es n (l.drop es) (by simp; omega)
  have e : fa5 es (n + 1) l = l.take es :: fa5 es n (l.drop es) := by simp [fa5, E3, E4]
  rw [e]
  refine ⟨by simp [h1], fun i r hr => ?_⟩
  cases i with
  | zero => simp at hr; subst hr; simp
  | succ i =>
   obtain ⟨h3, h4⟩ := h2 i r (by simpa using hr)
   refine ⟨?_, by omega⟩
   rw [h3, List.drop_drop, Nat.add_mul, Nat.one_mul, Nat.add_comm es]
omit hA hG hH in
theorem r8.allocRow (h : r8 W ρ H F w) (et es n : Nat) (cs : List a7) (vs : Array Value) (cap : Nat) (hes : 0 < es) (hl : cs.length = n * es) (hcap : vs.size = cap * es) (hn : n ≤ cap) (hm : cap ≤ maxLen)
  (hr : ∀ (i : Nat) z z', cs[i]? = some z → vs[i]? = some z' → R2 F w z z') :
  J3 W ρ H F w (.sl H.length 0 n 0) (aa5 H et es (fa5 es n cs)) (.slice (some ⟨w.heap.size, 0, none⟩) n cap) (w.alloc (.cells vs et)) := by
 obtain ⟨hc1, hc2⟩ := Fb2 es n cs (by omega)
 have hle : n * es ≤ cap * es := Nat.mul_le_mul_right _ hn
 obtain ⟨h1, h2⟩ := h.alloc et es (fa5 es n cs) vs et (fun i r hr' => by
   obtain ⟨h3, h4⟩ := hc2 i r hr'
   have := Nat.mul_le_mul_right es (show i + 1 ≤ n from h4)
   rw [Nat.add_mul, Nat.one_mul] at this
   rw [h3]; simp; omega) (by rw [hc1, hcap]; exact hle) (fun i r c z hr' hz => by
   obtain ⟨h3, h4⟩ := hc2 i r hr'
   subst h3
   have hcl : c < es := by
    have := (List.getElem?_eq_some_iff.1 hz).1
    simp at this
    omega
   rw [List.getElem?_take, if_pos hcl, List.getElem?_drop] at hz
   have hlt : i * es + c < vs.size := by have := (List.getElem?_eq_some_iff.1 hz).1; omega
   exact ⟨vs[i * es + c], by simp [hlt], hr _ z _ hz (by simp [hlt])⟩) (fun _ => rfl)
 rw [ub5]
 refine ⟨_, F, h1, h2, .val (.cell (.sl _ _ _ _ _ _ { et, es, elems := fa5 es n cs, own := true, dead := false, g := 0 } (by simp) rfl (Nat.le_refl _) hn rfl hm fun _ => ⟨.inr ?_, ?_, by simp [hc1]⟩))⟩
 ·simp [ρnew]
 ·simp [ρnew, hcap]
omit hA hG hH in
theorem La3 (z : List a7) : ∀ (n k : Nat), 0 < z.length → k < n * z.length → ((List.replicate n z).flatten)[k]? = z[k % z.length]?
 | 0, k, _, h => by simp at h
 | n + 1, k, hz, h => by
  rw [List.replicate_succ, List.flatten_cons]
  rcases Nat.lt_or_ge k z.length with hk | hk
  ·rw [List.getElem?_append_left hk, Nat.mod_eq_of_lt hk]
  ·rw [List.getElem?_append_right hk]
   rw [Nat.add_mul, Nat.one_mul] at h
   rw [La3 z n (k - z.length) hz (by omega)]
   congr 1
   conv => rhs; rw [show k = k - z.length + z.length by omega, Nat.add_mod_right]
theorem Xb6 {t e : TypeId} {n : Nat} {ps : Array (Nat × Operand)} {z : List a7} {l : List (Nat × Nat × Arg)} (ho : o.op = .buildSlice t n ps) (hu : E.P.underlying t = some (.slice e)) (hz : zeT E.P e = some z) (hc : ya4 E.P t ps.toList = some l)
  (hlim : n * szT E.P e ≤ 16777216) (hzl : z.length = szT E.P e) (hpos : 0 < szT E.P e)
  (he : (evalOp E a H (.bslice e (szT E.P e) n (List.replicate n z).flatten l)).run = some (x, H')) : i5 E.P o ac w (J3 W ρ H F w x H') := by
 simp only [evalOp] at he
 cases hf : Wa8 (List.replicate n z).flatten (o3 (fun p => (p.1, p.2.1, a9 E a p.2.2)) l) with
 | none => rw [hf] at he; cases he
 | some cs =>
 simp only [hf] at he
 cases hfr : freezeCells H cs with
 | none => rw [hfr] at he; cases he
 | some q =>
 obtain ⟨cs2, H1⟩ := q
 simp only [hfr, j7] at he
 have he' := Option.some.inj he
 injection he' with e1 e2; subst e1 e2
 obtain ⟨ti, zv, hi, hzz, rfl, hone⟩ := sa9 hz
 have hts : szT E.P e = ti.size := by simp [szT, hi]
 rw [hts] at hzl hpos hlim
 have hzs : zv.cells.size = ti.size := by simpa using hzl
 obtain ⟨hl1, hl2⟩ := Rb9 hA hG hc
 let cells0 : Array Value := (Array.range (n * ti.size)).map (zv.cells[· % zv.cells.size]!)
 have hflen : ((List.replicate n (zv.cells.toList.map a7.v)).flatten).length = n * ti.size := by simp [List.length_flatten, hzs]
 obtain ⟨cs', h1, h2, h3, h4⟩ := Xb5 (ρ := ρ) (H := H) (F := F) (w := w) (fun i => some (i * ti.size, ti.size)) _ (ps.toList.map fun p => (p.1, ac.eval p.2)) _ cells0 cs hl1 (fun i p p' hp hp' => by
   obtain ⟨h1, h2⟩ := hl2 i p p' hp hp'
   refine ⟨?_, h2⟩
   unfold jb5 at h1
   simp only [hu, szT, hi] at h1
   exact h1) (by rw [hflen]; simp [cells0]) (fun k u u' hk hk' => by
   have hlt : k < n * ti.size := by have := (List.getElem?_eq_some_iff.1 hk).1; omega
   rw [La3 _ n k (by simp; omega) (by simp [hzs]; exact hlt)] at hk
   simp [hzs] at hk
   obtain ⟨b, hb1, rfl⟩ := hk
   simp [cells0, hlt, hzs] at hk'
   rw [getElem!_def, hb1] at hk'
   simp at hk'
   subst hk'
   exact .v _) hf
 have hvs : cs'.size = n * ti.size := by rw [h2]; simp [cells0]
 obtain ⟨F1, a1, hH1, h5, h6, h7⟩ := Ea4 hH (vs := cs'.toList) (by rw [h3, hflen]; simp [hvs]) (fun i y y' hy hy' => h4 i y y' hy (by simpa using hy')) hfr
 have hb : (Instr.buildSlice t n (ps.map fun (p : Nat × Operand) => (p.1, ac.eval p.2))).run E.P w = .ok (.slice (some ⟨w.heap.size, 0, none⟩) n n) (w.alloc (.cells cs' e)) := by
  have hps : (ps.map fun (p : Nat × Operand) => (p.1, ac.eval p.2)).toList = ps.toList.map fun p => (p.1, ac.eval p.2) := by simp
  unfold Instr.buildSlice
  have hlim' : ¬ (n * ti.size > 2 ^ 24) := by omega
  by_cases h0 : n * ti.size = 0
  ·have hn0 : n = 0 := by
    rcases Nat.eq_zero_or_pos n with h | h
    ·exact h
    ·have := Nat.mul_pos h hpos; omega
   subst hn0
   have h1' : Instr.fill (fun i => some (i * ti.size, ti.size)) #[] (ps.toList.map fun p => (p.1, ac.eval p.2)) = some cs' := by
    have : cells0 = #[] := by simp [cells0]
    rw [← this]; exact h1
   have hr0 : ∀ f : Nat → Value, (Array.range (0 * ti.size)).map f = #[] := by simp
   simp only [Sem.run_bind, run_underlying hu, Result.andThen_ok, sizeOf, typeInfo, run_program, hi, Sem.run_pure, if_neg hlim', if_pos h0, hps, hr0, h1', newRow, run_newObj]
   rfl
  ·have hlim2 : ¬ (16777216 < n * ti.size) := by omega
   have hn0 : ¬ (n = 0 ∨ ti.size = 0) := by
    intro h; rcases h with h | h <;> simp [h] at h0
   simp only [Sem.run_bind, run_underlying hu, Result.andThen_ok, sizeOf, typeInfo, run_program, hi, Sem.run_pure, if_neg hlim', if_neg h0, zeroValue, hzz, hps]
   have h1' : Instr.fill (fun i => some (i * ti.size, ti.size)) ((Array.range (n * ti.size)).map fun x => zv.cells[x % zv.cells.size]!) (ps.toList.map fun p => (p.1, ac.eval p.2)) = some cs' := h1
   simp only [h1', newRow, run_newObj, Sem.run_bind, Result.andThen_ok, Sem.run_pure]
   rfl
 refine .value (x' := .slice (some ⟨w.heap.size, 0, none⟩) n n) (w' := w.alloc (.cells cs' e)) (by simp only [execOp, ho, Sem.run_bind, hb, Result.andThen_ok, Sem.run_pure]) ?_
 rw [hts]
 obtain ⟨ρ', F', g1, g2, g3⟩ := r8.allocRow (H := H1) hH1 e ti.size n cs2 cs' n hpos (by rw [h5, h3, hflen]) hvs (Nat.le_refl _) (by
   have : n ≤ n * ti.size := Nat.le_mul_of_pos_right n hpos
   unfold maxLen; omega) (fun i z z' hz1 hz2 => h6 i z z' hz1 (by simpa using hz2))
 exact ⟨ρ', F', a1.trans g1, g2, g3⟩
theorem qc2 {t e : TypeId} {y yc : Operand} {z : List a7} (ho : o.op = .makeSlice t y yc) (hu : E.P.underlying t = some (.slice e)) (hz : zeT E.P e = some z) (hzl : z.length = szT E.P e) (hpos : 0 < szT E.P e)
  (he : (evalOp E a H (.mksl e (szT E.P e) (byT E.P e) z (f0 y) (f0 yc))).run = some (x, H')) : i5 E.P o ac w (J3 W ρ H F w x H') := by
 have hy := j5 hA hG y
 have hyc := j5 hA hG yc
 simp only [evalOp] at he
 cases h1 : Y6 (a9 E a (f0 y)) with
 | none => simp [h1] at he
 | some n =>
 cases h2 : Y6 (a9 E a (f0 yc)) with
 | none => simp [h1, h2] at he
 | some m =>
 simp only [h1, h2, j7] at he
 obtain ⟨k1, e1⟩ := Oa0 h1 hy
 obtain ⟨k2, e2⟩ := Oa0 h2 hyc
 obtain ⟨hb, he⟩ := DT.run_guard_some he
 simp only [Bool.and_eq_true] at hb
 obtain ⟨⟨⟨hb1, hb2⟩, hb3⟩, hb4⟩ := hb
 obtain ⟨g1, g2, _⟩ := Xa9 hb1
 obtain ⟨g3, g4, _⟩ := Xa9 hb2
 have hb3 := Nat.le_of_ble_eq_true hb3
 have hb4 := Nat.le_of_ble_eq_true hb4
 have he' := Option.some.inj he
 injection he' with e3 e4; subst e3 e4
 obtain ⟨ti, zv, hi, hzz, rfl, hone⟩ := sa9 hz
 have hts : szT E.P e = ti.size := by simp [szT, hi]
 have hby : byT E.P e = ti.bytes := by simp [byT, hi]
 rw [hts] at hzl hpos ⊢
 rw [hby] at hb4
 have hzs : zv.cells.size = ti.size := by simpa using hzl
 unfold room at g2 g4 hb4
 have hbytes : (ti.bytes : Int) * m ≤ 281474976710656 := by
  obtain ⟨m', rfl⟩ := Int.eq_ofNat_of_zero_le g3
  have : ti.bytes * m' ≤ 140737488355328 := by rw [Nat.mul_comm]; simpa using hb4
  have h5 : ((ti.bytes * m' : Nat) : Int) ≤ 281474976710656 := by omega
  simpa using h5
 have hr := run_make (P := E.P) w t e ti zv hu hi hzz k1 k2 n m g1 (by omega) hbytes (by omega)
 refine .value (x' := .slice (some ⟨w.heap.size, 0, none⟩) n.toNat m.toNat) (w' := w.alloc (.cells (madeCells zv.cells (m.toNat * ti.size)) e)) (by simp only [execOp, ho, e1, e2, Sem.run_bind, hr, Result.andThen_ok, Sem.run_pure]) ?_
 have hch : aa5 H e ti.size (List.replicate n.toNat (zv.cells.toList.map a7.v)) = aa5 H e ti.size (fa5 ti.size n.toNat (List.replicate n.toNat (zv.cells.toList.map a7.v)).flatten) := by
  congr 1
  have hgen : ∀ (q : Nat) (zz : List a7), zz.length = ti.size → fa5 ti.size q (List.replicate q zz).flatten = List.replicate q zz := fun q zz hq => by
   induction q with
   | zero => rfl
   | succ q ih =>
    simp only [fa5, List.replicate_succ, List.flatten_cons, E3, E4]
    rw [List.take_left' hq, List.drop_left' hq, ih]
  exact (hgen _ _ (by simpa using hzs)).symm
 rw [hch]
 have hflen : ((List.replicate n.toNat (zv.cells.toList.map a7.v)).flatten).length = n.toNat * ti.size := by simp [List.length_flatten, hzs]
 refine r8.allocRow hH e ti.size n.toNat _ _ m.toNat hpos hflen (by simp [madeCells]) hb3 (by unfold maxLen; omega) fun i u u' hu1 hu2 => ?_
 have hlt : i < n.toNat * ti.size := by have := (List.getElem?_eq_some_iff.1 hu1).1; omega
 have hle : n.toNat * ti.size ≤ m.toNat * ti.size := Nat.mul_le_mul_right _ hb3
 rw [La3 _ n.toNat i (by simp; omega) (by simp [hzs]; exact hlt)] at hu1
 simp [hzs] at hu1
 obtain ⟨b, hb1, rfl⟩ := hu1
 have hlt2 : i < m.toNat * ti.size := by omega
 simp [madeCells, hlt2, hzs] at hu2
 rw [getElem!_def, hb1] at hu2
 simp at hu2
 subst hu2
 exact .v _ (hone _ (by simpa using Array.mem_of_getElem? hb1))
end
end
end Go.Ev
namespace Go.Ev
open Go
section
variable {W : Nat → Prop} {ρ : Rho} {H H' : List a8} {F : Fz} {w : World} {E : Env} {o : Oper} {a : List a7} {ac : Act} {x : a7}
theorem fc0 : ∀ (ts : List Nat) (vs : List Value) (t : Nat) (g : Nat → Option Value), va6 g ts = some vs → t ∈ ts → g t = some (vc1 ts vs t)
 | [], _, _, _, _, h => by simp at h
 | s :: ts, vs, t, g, hm, h => by
  rw [Rb5] at hm
  cases hg : g s with
  | none => simp [hg] at hm
  | some v =>
  cases hr : va6 g ts with
  | none => simp [hg, hr] at hm
  | some r =>
  simp [hg, hr] at hm
  subst hm
  simp only [vc1]
  cases hb : Nat.beq s t with
  | true => have := Nat.eq_of_beq_eq_true hb; subst this; exact hg
  | false =>
   have hne := Nat.ne_of_beq_eq_false hb
   rcases List.mem_cons.1 h with h | h
   ·exact absurd h.symm hne
   ·exact fc0 ts r t g hr h
theorem db1 : ∀ (l : List Operand) (ts : List Nat), pa3 l = some ts → ∀ x ∈ l, (∀ t, x = .tmp t → t ∈ ts) ∧ ∀ g, x ≠ .global g
 | [], _, _, _, hx => by simp at hx
 | y :: l, ts, h, x, hx => by
  cases y with
  | tmp t =>
   simp only [pa3] at h
   cases hr : pa3 l with
   | none => simp [hr] at h
   | some r =>
   simp [hr] at h
   subst h
   rcases List.mem_cons.1 hx with rfl | hx
   ·exact ⟨fun t' e => (by injection e with e; simp [e]), fun g e => (by cases e)⟩
   ·obtain ⟨h1, h2⟩ := db1 l r hr x hx
    exact ⟨fun t' e => by simp [h1 t' e], h2⟩
  | global g => simp [pa3] at h
  | const v =>
   rcases List.mem_cons.1 hx with rfl | hx
   ·exact ⟨fun t' e => (by cases e), fun g e => (by cases e)⟩
   ·exact db1 l ts h x hx
  | func f =>
   rcases List.mem_cons.1 hx with rfl | hx
   ·exact ⟨fun t' e => (by cases e), fun g e => (by cases e)⟩
   ·exact db1 l ts h x hx
section
variable (hA : ca7 ρ H F w a ac.tmps) (hH : r8 W ρ H F w) (hG : GOk E F w)
include hA hH hG
theorem Sb0 {ts : List Nat} (hts : pa3 o.op.operands.toList = some ts) (hs : ∀ cs b, o.op ≠ .select cs b) (he : (opt (Ob3 E a (yb9 o) ts) H).run = some (x, H')) : i5 E.P o ac w (J3 W ρ H F w x H') := by
 obtain ⟨y, h1, h2⟩ := ua7 he
 injection h2 with e1 e2; subst e1 e2
 unfold Ob3 at h1
 cases hm : va6 (fun t => dc8 (a9 E a (.t t))) ts with
 | none => simp [hm] at h1
 | some vs =>
 simp only [hm, vc3] at h1
 have hcongr : execOp ac.eval o = execOp (vc2 ts vs) (yb9 o) := by
  have : execOp (vc2 ts vs) (yb9 o) = execOp (vc2 ts vs) o := rfl
  rw [this]
  refine execOp_congr o hs fun z hz => ?_
  obtain ⟨h3, h4⟩ := db1 _ ts hts z (by simpa using hz)
  cases z with
  | tmp t =>
   have := fc0 ts vs t _ hm (h3 t rfl)
   exact Hc1 (j5 hA hG (.tmp t)) this
  | const v => rfl
  | func f => rfl
  | global g => exact absurd rfl (h4 g)
 split at h1
 ·rename_i v hr
  injection h1 with h1
  subst h1
  exact .value (x' := v) (w' := w) (by rw [hcongr]; exact pc5 hr w) (.stay hH (.ofVal v))
 ·cases h1
omit hH in
theorem fc1 {z : Option Operand} {n m : Nat} {code : BoundsCode} {d : Nat} (he : ((match z.map (fun y => a9 E a (f0 y)) with
  | none => DT.ret d
  | some x => match Y6 x with
   | some m => .guard (inB m (n + 1)) (.ret m.toNat)
   | none => .fail) : DT Nat).run = some m) :
  (z = none ∧ m = d) ∨ ∃ y, z = some y ∧ m ≤ n ∧ ∀ n', n ≤ n' → (Instr.sliceBound (ac.eval y) n' code).run E.P w = .ok m w := by
 cases z with
 | none => exact .inl ⟨rfl, (Option.some.inj he).symm⟩
 | some y =>
  right
  simp only [Option.map_some] at he
  cases hi : Y6 (a9 E a (f0 y)) with
  | none => simp [hi] at he
  | some k =>
  simp only [hi] at he
  obtain ⟨h1, h2⟩ := DT.run_guard_some he
  have := Option.some.inj h2
  subst this
  obtain ⟨g1, g2, g3⟩ := Xa9 h1
  obtain ⟨kk, e⟩ := Oa0 hi (j5 hA hG y)
  refine ⟨y, rfl, by omega, fun n' hn => ?_⟩
  have hle : k ≤ (n' : Int) := by omega
  simp [Instr.sliceBound, e, asIntOf, g1, hle]
omit hH in
theorem jb8 {n l h : Nat} {lo hi : Option Operand} (he : (mb5 n ((lo.map f0).map (a9 E a)) ((hi.map f0).map (a9 E a))).run = some (l, h)) :
  l ≤ h ∧ h ≤ n ∧ ∀ cap, n ≤ cap → (Instr.sliceBounds true n cap (lo.map ac.eval) (hi.map ac.eval) none).run E.P w = .ok (l, h, cap) w := by
 unfold mb5 at he
 simp only [Option.map_map, Function.comp_def] at he
 obtain ⟨h', h1, h2⟩ := DT.run_bind_some he
 have hb1 := fc1 hA hG (z := hi) (n := n) (d := n) (code := .sliceAcap) h1
 have h2' : (l, h).2 = h' ∧ ((lo = none ∧ l = 0) ∨ ∃ y, lo = some y ∧ l ≤ h' ∧ ∀ n', h' ≤ n' → (Instr.sliceBound (ac.eval y) n' .sliceB).run E.P w = .ok l w) := by
  cases lo with
  | none =>
   have := Option.some.inj h2
   injection this with e1 e2
   exact ⟨e2.symm, .inl ⟨rfl, e1.symm⟩⟩
  | some y =>
   simp only [Option.map_some] at h2
   cases hi2 : Y6 (a9 E a (f0 y)) with
   | none => simp [hi2] at h2
   | some k =>
   simp only [hi2] at h2
   obtain ⟨g1, g2⟩ := DT.run_guard_some h2
   have := Option.some.inj g2
   injection this with e1 e2
   have hb2 := fc1 hA hG (z := some y) (n := h') (d := 0) (m := k.toNat) (code := .sliceB) (by simp only [Option.map_some, hi2]; rw [show (DT.guard (inB k (h' + 1)) (DT.ret k.toNat)).run = some k.toNat by unfold DT.guard; rw [DT.run_ite, g1]; rfl])
   rcases hb2 with ⟨h5, _⟩ | ⟨y', h5, h6, h7⟩
   ·cases h5
   ·exact ⟨e2.symm, .inr ⟨y', h5, by omega, fun n' hn => by rw [h7 n' hn, e1]⟩⟩
 obtain ⟨e, hl⟩ := h2'
 simp only at e
 subst e
 have hhn : h ≤ n := by rcases hb1 with ⟨_, h3⟩ | ⟨_, _, h3, _⟩ <;> omega
 have hlh : l ≤ h := by rcases hl with ⟨_, h3⟩ | ⟨_, _, h3, _⟩ <;> omega
 refine ⟨hlh, hhn, fun cap hcap => ?_⟩
 unfold Instr.sliceBounds
 rcases hb1 with ⟨rfl, rfl⟩ | ⟨y1, rfl, _, k1⟩ <;> rcases hl with ⟨rfl, rfl⟩ | ⟨y2, rfl, _, k2⟩
 ·simp
 ·simp [k2 h (Nat.le_refl _)]
 ·simp [k1 cap hcap]
 ·simp [k1 cap hcap, k2 h (Nat.le_refl _)]
theorem fc2 {t e : TypeId} {y : Operand} {lo hi : Option Operand} {ei : TypeInfo} (ho : o.op = .slice t y lo hi none) (hu : E.P.underlying t = some (.slice e)) (hei : E.P.info? e = some ei)
  (he : (evalOp E a H (.slice (szT E.P e) (f0 y) (lo.map f0) (hi.map f0))).run = some (x, H')) : i5 E.P o ac w (J3 W ρ H F w x H') := by
 have hy := j5 hA hG y
 have hes : szT E.P e = ei.size := by simp [szT, hei]
 have hrun : ∀ {ad : Option Addr} {n cap l h : Nat}, ac.eval y = .slice ad n cap → (Instr.sliceBounds true n cap (lo.map ac.eval) (hi.map ac.eval) none).run E.P w = .ok (l, h, cap) w →
   (execOp ac.eval o).run E.P w = .ok (.value (.slice (if cap = l then ad else ad.map (·.add (l * ei.size))) (h - l) (cap - l))) w := fun {ad n cap l h} e1 e2 => by
  unfold execOp
  simp [ho, Instr.sliceAt, run_underlying hu, Instr.slice, e1, e2, sizeOf, typeInfo, hei]
 rw [hes] at he
 simp only [evalOp] at he
 revert he hy
 generalize a9 E a (f0 y) = p
 intro he hy
 split at he
 ·rename_i id off n g
  cases hbk : blkAt H id g with
  | none => simp [hbk] at he
  | some b =>
  obtain ⟨hb, hd, hg⟩ := q7 hbk
  cases hbe : Nat.beq b.es ei.size with
  | false => simp [hbk, hbe] at he
  | true =>
  have hbes := Nat.eq_of_beq_eq_true hbe
  simp only [hbk, hbe] at he
  obtain ⟨⟨l, h⟩, h1, h2⟩ := DT.run_bind_some he
  have he' := Option.some.inj h2
  injection he' with e1 e2; subst e1 e2
  obtain ⟨g1, g2, g3⟩ := jb8 hA hG h1
  obtain ⟨ad, cap, b', e0, hb', hd', hg', hn, hspot, hcm0, hh⟩ := ka8 hy
  have : b' = b := Option.some.inj (hb'.symm.trans hb)
  subst this
  obtain ⟨h3, h4, h5⟩ := hh hg
  have hr := hrun e0 (g3 cap hn)
  have hform : (if cap = l then some ad else (some ad).map (·.add (l * ei.size))) = some (if cap = l then ad else ad.add (l * ei.size)) := by split <;> rfl
  rw [hform] at hr
  refine .value hr (.stay hH (.val (.cell (.sl _ _ _ _ _ _ b' hb hd hg' (by omega) ?_ (by omega) fun _ => ⟨?_, ?_, by omega⟩))))
  ·split
   ·exact hspot
   ·rw [T6 hspot]
  ·by_cases hc : cap = l
   ·rw [if_pos hc]
    rcases Nat.eq_zero_or_pos l with h0 | h0
    ·subst h0
     rcases h3 with h3 | h3
     ·exact .inl ⟨by omega, by omega⟩
     ·exact .inr (by simpa using h3)
    ·exact .inl ⟨by omega, by omega⟩
   ·rw [if_neg hc]
    right
    have had := h3.resolve_left (by omega)
    rw [T6 hspot, had, hbes, Nat.add_mul]
    simp; omega
  ·rw [← h4]
   congr 1
   omega
 ·rename_i es' n get
  cases hbe : Nat.beq es' ei.size with
  | false => simp [hbe] at he
  | true =>
  have hbes := Nat.eq_of_beq_eq_true hbe
  simp only [hbe] at he
  obtain ⟨⟨l, h⟩, h1, h2⟩ := DT.run_bind_some he
  have he' := Option.some.inj h2
  injection he' with e1 e2; subst e1 e2
  obtain ⟨g1, g2, g3⟩ := jb8 hA hG h1
  have ht := ga8 hy
  generalize hv : ac.eval y = v at *
  cases ht with
  | tree _ _ _ ad cap cs hs hcap hes' hF hw hr =>
  have hr0 := hrun rfl (g3 cap hcap)
  have hform : (if cap = l then some ad else (some ad).map (·.add (l * ei.size))) = some (if cap = l then ad else ad.add (l * ei.size)) := by split <;> rfl
  rw [hform] at hr0
  refine .value hr0 (.stay hH (.val (.cell (.mem ?_))))
  by_cases hc : cap = l
  ·rw [if_pos hc]
   exact .tree _ _ _ ad _ (fun i c => cs (l + i) c) (fun h => hs (by omega)) (by omega) (fun i hi => absurd hi (by omega)) (fun i c hi => absurd hi (by omega)) (fun i c hi => absurd hi (by omega)) (fun i c hi => absurd hi (by omega))
  ·rw [if_neg hc]
   have e3 : ∀ i c, ad.off + l * ei.size + (i * es' + c) = ad.off + ((l + i) * es' + c) := fun i c => by rw [Nat.add_mul, hbes]; omega
   refine .tree _ _ _ _ _ (fun i c => cs (l + i) c) (fun h => by rw [T6 (hs (by omega))]) (by omega) (fun i hi => hes' _ (by omega)) (fun i c hi hc' => ?_) (fun i c hi hc' => ?_) (fun i c hi hc' => hr (l + i) c (by omega) hc')
   ·rw [T6 (hs (by omega))]; simp only; rw [e3]; exact hF _ _ (by omega) hc'
   ·rw [T6 (hs (by omega))]; simp only; rw [e3]; exact hw _ _ (by omega) hc'
  | nil =>
   have hr := hrun rfl (g3 0 (Nat.le_refl _))
   have : l = 0 := by omega
   have : h = 0 := by omega
   subst l h
   exact .value hr (.stay hH (.val (.cell (.mem (.nil _ _)))))
 ·obtain ⟨⟨l, h⟩, h1, h2⟩ := DT.run_bind_some he
  have he' := Option.some.inj h2
  injection he' with e1 e2; subst e1 e2
  obtain ⟨g1, g2, g3⟩ := jb8 hA hG h1
  have hr := hrun (Q6 hy) (g3 0 (Nat.le_refl _))
  have : l = 0 := by omega
  have : h = 0 := by omega
  subst l h
  exact .value hr (.stay hH (.ofv _))
 ·cases he
end
end
end Go.Ev
namespace Go.Ev
open Go
section
variable {W : Nat → Prop} {ρ : Rho} {H H' : List a8} {F : Fz} {w : World} {E : Env} {o : Oper} {a : List a7} {ac : Act} {x : a7}
theorem dd4 {y : a7} {y' : Value} (hy : y8 ρ H F w y y') (hp : Gc6 y = true) : P6 ρ H F w y y' := by
  have hn : ∀ cs, y ≠ .agg cs := fun cs e => by subst e; cases hp
  have hp' : sa6 y = true := by cases y <;> first | exact hp | cases hp
  exact (nb6 hy hp' hn).1
theorem Xb7 {f : a7 → Bool} : ∀ {l : List a7}, mb6 f l = true → ∀ y ∈ l, f y = true
  | [], _, y, hy => by simp at hy
  | z :: l, h, y, hy => by
    have h' : (Bool.rec false (mb6 f l) (f z) : Bool) = true := h
    cases hz : f z with
    | false => rw [hz] at h'; cases h'
    | true =>
      rw [hz] at h'
      rcases List.mem_cons.1 hy with rfl | hy
      · exact hz
      · exact Xb7 h' y hy
section
variable (hA : ca7 ρ H F w a ac.tmps) (hH : r8 W ρ H F w) (hG : GOk E F w)
include hA hH hG
omit hH in
theorem Hc4 (xs : List Operand) : (o3 (a9 E a) (xs.map f0)).length = (xs.map ac.eval).length ∧ ∀ (i : Nat) y y', (o3 (a9 E a) (xs.map f0))[i]? = some y → (xs.map ac.eval)[i]? = some y' → y8 ρ H F w y y' := by
  rw [n7]
  refine ⟨by simp, fun i y y' hy hy' => ?_⟩
  rw [List.map_map, List.getElem?_map] at hy
  rw [List.getElem?_map] at hy'
  cases hx : xs[i]? with
  | none => simp [hx] at hy
  | some z =>
  simp [hx] at hy hy'
  subst hy hy'
  exact j5 hA hG z
theorem qc3 {f : FuncId} {first caps : Array Operand} (ho : o.op = .makeFunc (.func f) first caps) (hf : first.isEmpty = true)
    (he : (evalOp E a H (.mkfn f (caps.toList.map f0))).run = some (x, H')) : i5 E.P o ac w (J3 W ρ H F w x H') := by
  simp only [evalOp] at he
  cases hb : mb6 Gc6 (o3 (a9 E a) (caps.toList.map f0)) with
  | false => simp [hb] at he
  | true =>
  simp only [hb] at he
  have he' := Option.some.inj he
  injection he' with e1 e2; subst e1 e2
  obtain ⟨h1, h2⟩ := Hc4 hA hG caps.toList
  have hfirst : first = #[] := by simpa using hf
  refine .value (x' := .func (.func f) #[] (caps.map ac.eval)) (w' := w) (by simp [execOp, ho, Instr.makeFunc, hfirst]) (.stay hH (.val (.fn f _ _ (by rw [h1]; simp) fun i y y' hy hy' => ?_)))
  exact dd4 (h2 i y y' hy (by rw [← Array.getElem?_toList] at hy'; simpa using hy')) (Xb7 hb y (List.mem_of_getElem? hy))
omit hA hH hG in
theorem Hc5 {cs : List a7} {vs : Array Value} {t : TypeId} {off n : Nat} {y : a7} {ks : List CK} (hn : n = szT E.P t) (hu : (E.P.underlying t).isSome = true) (hl : cs.length = vs.size) (hr : ∀ (i : Nat) x x', cs[i]? = some x → vs[i]? = some x' → P6 ρ H F w x x')
    (hfit : off + n ≤ cs.length) (hks : ks.length = n) (hok : Ka0 ks (cs.drop off) = true) (hy : La0 (agT E.P t) (Wa6 ks (cs.drop off)) = some y) : ∃ y', (part t vs off).run E.P w = .ok y' w ∧ y8 ρ H F w y y' := by
  obtain ⟨d, hd⟩ := Option.isSome_iff_exists.1 hu
  obtain ⟨ti, hi1, hi2⟩ := Ea3 hd
  have hget : ∀ (i : Nat) z z', (Wa6 ks (cs.drop off))[i]? = some z → (vs.extract off (off + n))[i]? = some z' → P6 ρ H F w z z' := fun i z z' hz hz' => by
    obtain ⟨hj, k, y, g1, rfl, g2⟩ := ub3 ks _ hok i z hz
    have g3 := g2 (by rw [List.length_drop]; omega)
    rw [List.getElem?_drop] at g3
    rw [Array.getElem?_extract] at hz'
    split at hz'
    · exact Bc5 g1 (hr _ y z' g3 hz')
    · cases hz'
  rcases cb8 hy with ⟨hag, rfl⟩ | ⟨hag, z, hz, rfl⟩
  · exact ⟨.agg (vs.extract off (off + n)), by simp [part, Da6 hag, sizeOf, typeInfo, hi1, hi2, hn], .val (.agg _ _ (by simp [cb9]; omega) hget)⟩
  · have h1 : n = 1 := by
      have := congrArg List.length hz
      simp [cb9] at this
      omega
    subst h1
    have hlt : off < vs.size := by omega
    have hne : E.P.underlying t ≠ none := by rw [hd]; simp
    have hlt2 : 0 < (vs.extract off (off + 1)).size := by simp; omega
    refine ⟨vs[off], by simp [part, sa8 hag hne, hlt], .val (.cell (hget 0 y vs[off] (by rw [hz]; rfl) ?_))⟩
    rw [Array.getElem?_extract]
    simp [hlt]; omega
omit hA hH hG in
theorem Tc0 {cs : List a7} {vs : Array Value} {t : TypeId} {off n : Nat} {y : a7} (hn : n = szT E.P t) (hu : (E.P.underlying t).isSome = true) (hl : cs.length = vs.size) (hr : ∀ (i : Nat) x x', cs[i]? = some x → vs[i]? = some x' → P6 ρ H F w x x')
    (hfit : off + n ≤ cs.length) (hy : La0 (agT E.P t) ((cs.drop off).take n) = some y) : ∃ y', (part t vs off).run E.P w = .ok y' w ∧ y8 ρ H F w y y' := by
  obtain ⟨d, hd⟩ := Option.isSome_iff_exists.1 hu
  obtain ⟨ti, hi1, hi2⟩ := Ea3 hd
  have hget : ∀ (i : Nat) z z', ((cs.drop off).take n)[i]? = some z → (vs.extract off (off + n))[i]? = some z' → P6 ρ H F w z z' := fun i z z' hz hz' => by
    rw [List.getElem?_take] at hz
    split at hz
    · rename_i hi
      rw [List.getElem?_drop] at hz
      rw [Array.getElem?_extract] at hz'
      split at hz'
      · exact hr _ z z' hz hz'
      · cases hz'
    · cases hz
  rcases cb8 hy with ⟨hag, rfl⟩ | ⟨hag, z, hz, rfl⟩
  · exact ⟨.agg (vs.extract off (off + n)), by simp [part, Da6 hag, sizeOf, typeInfo, hi1, hi2, hn], .val (.agg _ _ (by simp; omega) hget)⟩
  · have h1 : n = 1 := by
      have := congrArg List.length hz
      simp at this
      omega
    subst h1
    have hlt : off < vs.size := by omega
    have hne : E.P.underlying t ≠ none := by rw [hd]; simp
    have hz0 : cs[off]? = some y := by
      have := congrArg (fun l => l[0]?) hz
      simpa using this
    exact ⟨vs[off], by simp [part, sa8 hag hne, hlt], .val (.cell (hr off _ _ hz0 (Array.getElem?_eq_getElem hlt)))⟩
theorem fc3 {t : TypeId} {y : Operand} {f : Nat} {fs : Array Field} {fd : Field} (ho : o.op = .field t y f) (hu : E.P.underlying t = some (.struct fs)) (hf : fs[f]? = some fd) (hsome : (E.P.underlying fd.type).isSome = true)
    (he : (evalOp E a H (.field fd.offset (szT E.P fd.type) (agT E.P fd.type) (f0 y))).run = some (x, H')) : i5 E.P o ac w (J3 W ρ H F w x H') := by
  have hy := j5 hA hG y
  simp only [evalOp] at he
  revert he hy
  generalize a9 E a (f0 y) = p
  intro he hy
  split at he
  · rename_i cs
    simp only [j7, E3, E4] at he
    cases hb : Nat.ble (fd.offset + szT E.P fd.type) cs.length with
    | false => simp [hb] at he
    | true =>
    simp only [hb] at he
    obtain ⟨z, h1, h2⟩ := ua7 he
    injection h2 with e1 e2; subst e1 e2
    obtain ⟨vs, e0, hl, hr⟩ := ja0 hy
    obtain ⟨y', h3, h4⟩ := Tc0 rfl hsome hl hr (Nat.le_of_ble_eq_true hb) h1
    exact .value (x' := y') (w' := w) (by simp [execOp, ho, Instr.field, run_underlying hu, hf, e0, asAgg, h3]) (.stay hH h4)
  · cases he
theorem fc4 {ks : List CK} {t e : TypeId} {n : Nat} {y z : Operand} (ho : o.op = .index t y z) (hu : E.P.underlying t = some (.array n e)) (hsome : (E.P.underlying e).isSome = true)
    (he : (evalOp E a H (.index ks n (szT E.P e) (agT E.P e) (f0 y) (f0 z))).run = some (x, H')) : i5 E.P o ac w (J3 W ρ H F w x H') := by
  have hy := j5 hA hG y
  have hz := j5 hA hG z
  simp only [evalOp] at he
  revert he hy
  generalize a9 E a (f0 y) = p
  intro he hy
  split at he
  · rename_i cs m hm
    obtain ⟨kk, ek⟩ := Oa0 hm hz
    obtain ⟨hb, he⟩ := DT.run_guard_some he
    simp only [Bool.and_eq_true] at hb
    obtain ⟨hb, hb2, hb3, hb4⟩ := hb
    obtain ⟨g1, g2, g3⟩ := Xa9 hb
    simp only [j7, E4] at he hb2 hb3 hb4
    obtain ⟨q, h1, h2⟩ := ua7 he
    injection h2 with e1 e2; subst e1 e2
    obtain ⟨vs, e0, hl, hr⟩ := ja0 hy
    obtain ⟨y', h3, h4⟩ := Hc5 rfl hsome hl hr (Nat.le_of_ble_eq_true hb2) (Nat.eq_of_beq_eq_true hb3) hb4 h1
    obtain ⟨d, hd⟩ := Option.isSome_iff_exists.1 hsome
    obtain ⟨ti, hi1, hi2⟩ := Ea3 hd
    rw [← hi2] at h3
    exact .value (x' := y') (w' := w) (by simp [execOp, ho, Instr.index, ek, asIntOf, run_underlying hu, e0, g1, g2, sizeOf, typeInfo, hi1, h3]) (.stay hH h4)
  · cases he
theorem Bc9 {t e : TypeId} {y : Operand} {c : Call} (ho : o.op = .call c) (hcb : c.callee = .builtin .len) (hca : c.args = #[y]) (hct : c.argTypes = #[t]) (hu : E.P.underlying t = some (.slice e))
    (he : (evalOp E a H (.len (f0 y))).run = some (x, H')) : i5 E.P o ac w (J3 W ρ H F w x H') := by
  have hy := j5 hA hG y
  simp only [evalOp] at he
  obtain ⟨z, h1, h2⟩ := ua7 he
  injection h2 with e1 e2; subst e1 e2
  have hrun : ∀ {ad : Option Addr} {n cap : Nat}, ac.eval y = .slice ad n cap → (execOp ac.eval o).run E.P w = .ok (.value (.int .i64 n)) w := fun {ad n cap} e1 => by
    unfold execOp
    simp [ho, hcb, hca, hct, resolve, invoke, builtin, e1, Builtin.len_, run_underlying hu, goInt]
  revert h1 hy
  generalize a9 E a (f0 y) = p
  intro h1 hy
  unfold kd6 at h1
  split at h1
  · injection h1 with h1
    subst h1
    obtain ⟨ad, cap, b', e0, _⟩ := ka8 hy
    exact .value (hrun e0) (.stay hH (.ofv _))
  · injection h1 with h1
    subst h1
    have ht := ga8 hy
    generalize hv : ac.eval y = v at *
    cases ht with
    | tree _ _ _ ad cap cs hs hcap hes' hF hw hr => exact .value (hrun rfl) (.stay hH (.ofv _))
    | nil => exact .value (hrun rfl) (.stay hH (.ofv _))
  · injection h1 with h1
    subst h1
    exact .value (hrun (Q6 hy)) (.stay hH (.ofv _))
  · cases h1
omit hA hG in
theorem Ob5 {t e : TypeId} {n : Nat} {y : Operand} {c : Call} (ho : o.op = .call c) (hcb : c.callee = .builtin .len) (hca : c.args = #[y]) (hct : c.argTypes = #[t]) (hu : E.P.underlying t = some (.array n e))
    (he : (evalOp E a H (.mv (.c (.v (.int .i64 n))))).run = some (x, H')) : i5 E.P o ac w (J3 W ρ H F w x H') := by
  have he' : some (a7.v (.int .i64 n), H) = some (x, H') := he
  injection he' with he'
  injection he' with h1 h2
  subst h1 h2
  refine .value (x' := .int .i64 n) (w' := w) ?_ (.stay hH (.ofv _))
  unfold execOp
  simp [ho, hcb, hca, hct, resolve, invoke, builtin, Builtin.len_, run_underlying hu, goInt]
omit hA hH hG in
theorem fc5 {P : Program} {t e : TypeId} (hu : P.underlying t = some (.slice e)) (ap aq : Option Addr) (n c m k : Nat) (h3 : ap.isNone = true ∨ aq.isNone = true) :
    (Op.equal t (.slice ap n c) (.slice aq m k)).run P w = .ok (ap.isNone && aq.isNone) w := by
  have h : ∀ d : Nat, (Op.equalIn (d + 1) t (.slice ap n c) (.slice aq m k)).run P w = .ok (ap.isNone && aq.isNone) w := fun d => by
    cases ap <;> cases aq <;> first | (simp at h3; done) | simp [Op.equalIn, run_underlying hu]
  exact h 9999
omit hA hH hG in
theorem Cc0 {P : Program} {t e : TypeId} (hu : P.underlying t = some (.pointer e)) (ap aq : Option Addr) (h3 : ap.isNone = true ∨ aq.isNone = true) :
    (Op.equal t (.pointer ap) (.pointer aq)).run P w = .ok (ap.isNone && aq.isNone) w := by
  have h : ∀ d : Nat, (Op.equalIn (d + 1) t (.pointer ap) (.pointer aq)).run P w = .ok (ap.isNone && aq.isNone) w := fun d => by
    cases ap <;> cases aq <;> first | (simp at h3; done) | simp [Op.equalIn, run_underlying hu]
  exact h 9999
omit hA hH hG in
theorem Fb3 {P : Program} {t : TypeId} {ps rs : Array TypeId} {v : Bool} (hu : P.underlying t = some (.func ps rs v)) :
    (Op.equal t .nilFunc .nilFunc).run P w = .ok true w ∧ (∀ f c, (Op.equal t .nilFunc (.func f #[] c)).run P w = .ok false w) ∧ ∀ f c, (Op.equal t (.func f #[] c) .nilFunc).run P w = .ok false w := by
  have h1 : ∀ d : Nat, (Op.equalIn (d + 1) t .nilFunc .nilFunc).run P w = .ok true w := fun d => by simp [Op.equalIn, run_underlying hu]
  have h2 : ∀ (d : Nat) f c, (Op.equalIn (d + 1) t .nilFunc (.func f #[] c)).run P w = .ok false w := fun d f c => by simp [Op.equalIn, run_underlying hu]
  have h3 : ∀ (d : Nat) f c, (Op.equalIn (d + 1) t (.func f #[] c) .nilFunc).run P w = .ok false w := fun d f c => by simp [Op.equalIn, run_underlying hu]
  exact ⟨h1 9999, h2 9999, h3 9999⟩
omit hA hH hG in
theorem dd5 {t : TypeId} {p q : a7} {p' q' : Value} {bp bq : Bool} (hp : y8 ρ H F w p p') (hq : y8 ρ H F w q q') (h1 : oa9 (Ka2 E.P t) p = some bp) (h2 : oa9 (Ka2 E.P t) q = some bq) (h3 : bp = true ∨ bq = true) :
    (Op.equal t p' q').run E.P w = .ok (bp && bq) w ∧ (∀ op y z, (eqGuard op t y z p' q').run E.P w = .ok () w) ∧ (∀ op, op = .eql ∨ op = .neq → binOp op t p' q' = if op = .eql then (do pure (.bool (← Op.equal t p' q'))) else (do pure (.bool (!(← Op.equal t p' q'))))) := by
  unfold Ka2 at h1 h2
  cases hu : E.P.underlying t with
  | none => simp [hu, oa9] at h1
  | some d =>
  cases d with
  | slice e =>
    simp only [hu] at h1 h2
    have form : ∀ {r : a7} {r' : Value} {b : Bool}, y8 ρ H F w r r' → oa9 0 r = some b → ∃ ad n c, r' = .slice ad n c ∧ ad.isNone = b := fun {r r' b} hr hb => by
      unfold oa9 at hb
      split at hb <;> first | cases hb | skip
      · exact ⟨none, _, _, Q6 hr, rfl⟩
      · exact ⟨some _, _, _, Q6 hr, rfl⟩
      · obtain ⟨ad, cap, b', e0, _⟩ := ka8 hr; exact ⟨some ad, _, _, e0, rfl⟩
      · split at hb
        · cases hb
        · injection hb with hb; subst hb
          have ht := ga8 hr
          cases ht with
          | tree _ _ _ ad cap cs hs hcap hes' hF hw hr => exact ⟨some ad, _, _, rfl, rfl⟩
      all_goals contradiction
    obtain ⟨ap, np, cp, rfl, rfl⟩ := form hp h1
    obtain ⟨aq, nq, cq, rfl, rfl⟩ := form hq h2
    refine ⟨fc5 hu ap aq np cp nq cq h3, fun op y z => ?_, fun op hop => ?_⟩
    · cases op <;> simp [eqGuard]
    · rcases hop with rfl | rfl <;> rfl
  | pointer e =>
    simp only [hu] at h1 h2
    have form : ∀ {r : a7} {r' : Value} {b : Bool}, y8 ρ H F w r r' → oa9 1 r = some b → ∃ ad, r' = .pointer ad ∧ ad.isNone = b := fun {r r' b} hr hb => by
      unfold oa9 at hb
      split at hb <;> first | cases hb | skip
      all_goals first
        | contradiction
        | exact ⟨none, Q6 hr, rfl⟩
        | (obtain ⟨ad, b', e0, _⟩ := ia9 hr; exact ⟨some ad, e0, rfl⟩)
        | (obtain ⟨ad, vs, e0, _⟩ := Na9 hr; exact ⟨some ad, e0, rfl⟩)
    obtain ⟨ap, rfl, rfl⟩ := form hp h1
    obtain ⟨aq, rfl, rfl⟩ := form hq h2
    refine ⟨Cc0 hu ap aq h3, fun op y z => ?_, fun op hop => ?_⟩
    · cases op <;> simp [eqGuard]
    · rcases hop with rfl | rfl <;> rfl
  | func ps rs v =>
    simp only [hu] at h1 h2
    have form : ∀ {r : a7} {r' : Value} {b : Bool}, y8 ρ H F w r r' → oa9 2 r = some b → (r' = .nilFunc ∧ b = true) ∨ ∃ f c, r' = .func f #[] c ∧ b = false := fun {r r' b} hr hb => by
      unfold oa9 at hb
      split at hb <;> first | cases hb | skip
      all_goals first
        | contradiction
        | exact .inl ⟨Q6 hr, rfl⟩
        | (obtain ⟨vs, e0, _⟩ := Qa4 hr; exact .inr ⟨_, _, e0, rfl⟩)
    rcases form hp h1 with ⟨rfl, rfl⟩ | ⟨f1, c1, rfl, rfl⟩ <;> rcases form hq h2 with ⟨rfl, rfl⟩ | ⟨f2, c2, rfl, rfl⟩
    all_goals first
      | (simp at h3; done)
      | (refine ⟨?_, fun op y z => ?_, fun op hop => ?_⟩
         · first | exact (Fb3 hu).1 | exact (Fb3 hu).2.1 _ _ | exact (Fb3 hu).2.2 _ _
         · cases op <;> simp [eqGuard]
         · rcases hop with rfl | rfl <;> rfl)
  | _ => simp [hu, oa9] at h1
theorem Sb1 {op : BinOp} {neg : Bool} {t u : TypeId} {y z : Operand} {ts : List Nat} (ho : o.op = .binOp op t y z u) (hop : (op = .eql ∧ neg = false) ∨ (op = .neq ∧ neg = true)) (hts : pa3 o.op.operands.toList = some ts)
    (he : (evalOp E a H (.eqn (Ka2 E.P t) neg (f0 y) (f0 z) (yb9 o) ts)).run = some (x, H')) : i5 E.P o ac w (J3 W ρ H F w x H') := by
  have hy := j5 hA hG y
  have hz := j5 hA hG z
  simp only [evalOp] at he
  have hgen : (opt (Ob3 E a (yb9 o) ts) H).run = some (x, H') → i5 E.P o ac w (J3 W ρ H F w x H') :=
    Sb0 hA hH hG hts (fun cs b e => by rw [ho] at e; cases e)
  have hfin : ∀ {bp bq : Bool}, oa9 (Ka2 E.P t) (a9 E a (f0 y)) = some bp → oa9 (Ka2 E.P t) (a9 E a (f0 z)) = some bq → (bp = true ∨ bq = true) →
      (execOp ac.eval o).run E.P w = .ok (.value (.bool (match neg with | true => !(bp && bq) | false => bp && bq))) w := fun {bp bq} h1 h2 h3 => by
    obtain ⟨g1, g2, g3⟩ := dd5 hy hz h1 h2 h3
    rcases hop with ⟨rfl, rfl⟩ | ⟨rfl, rfl⟩
    · simp only [execOp, ho, Sem.run_bind, g2, Result.andThen_ok, g3 .eql (.inl rfl), if_pos, g1, Sem.run_pure]
    · have hne : ¬ (BinOp.neq = BinOp.eql) := by decide
      simp only [execOp, ho, Sem.run_bind, g2, Result.andThen_ok, g3 .neq (.inr rfl), if_neg hne, g1, Sem.run_pure]
  unfold cd6 at he
  split at he
  · rename_i b h1 h2
    obtain ⟨q, e1, e2⟩ := ua7 he
    injection e1 with e1; injection e2 with e2 e3; subst e1 e2 e3
    refine .value (hfin h1 h2 (.inl rfl)) ?_
    cases neg <;> exact .stay hH (.ofv _)
  · rename_i h1 h2
    obtain ⟨q, e1, e2⟩ := ua7 he
    injection e1 with e1; injection e2 with e2 e3; subst e1 e2 e3
    refine .value (hfin h1 h2 (.inr rfl)) ?_
    cases neg <;> exact .stay hH (.ofv _)
  · exact hgen he
end
end
end Go.Ev
namespace Go.Ev
open Go
section
variable {W : Nat → Prop} {ρ : Rho} {H H' : List a8} {F : Fz} {w : World} {E : Env} {o : Oper} {a : List a7} {ac : Act} {x : a7}
theorem vc7 (hH : r8 W ρ H F w) {id off es : Nat} {b' : a8} (hb : H[id]? = some b') (hd : b'.dead = false) (hown : b'.own = true) (hbes : b'.es = es) {cc : Array Value} {tt : TypeId} (hB : Ab4 W F w (ρ id) b' cc tt (0, 0)) {news : List (List a7)} {nv : List Value}
  (hl : nv.length = news.length * es) (hrow : ∀ (i : Nat) r, news[i]? = some r → r.length = es) (hcell : ∀ (i : Nat) r (c : Nat) u, news[i]? = some r → r[c]? = some u → ∃ u', nv[i * es + c]? = some u' ∧ R2 F w u u') (hfit : off + news.length ≤ b'.elems.length) :
  off * es + news.length * es ≤ cc.size ∧
  Adv W ρ H F w ρ (H.set id { b' with elems := b'.elems.take off ++ (news ++ b'.elems.drop (off + news.length)) }) F (w.setRow (ρ id).blk (cc.toList.take (off * es) ++ nv ++ cc.toList.drop (off * es + news.length * es)).toArray) ∧
  r8 W ρ (H.set id { b' with elems := b'.elems.take off ++ (news ++ b'.elems.drop (off + news.length)) }) F (w.setRow (ρ id).blk (cc.toList.take (off * es) ++ nv ++ cc.toList.drop (off * es + news.length * es)).toArray) := by
 obtain ⟨hfr, hW, hoff0, hsize, hnF, htt⟩ := hB.own hown
 have hlenB := hB.len
 generalize hm : news.length = m at *
 have hfc : off * es + m * es ≤ cc.size := by
  have h8 : (off + m) * es ≤ b'.elems.length * b'.es := by rw [hbes]; exact Nat.mul_le_mul_right _ hfit
  rw [Nat.add_mul] at h8
  omega
 have hel2 : (b'.elems.take off ++ (news ++ b'.elems.drop (off + m))).length = b'.elems.length := by simp; omega
 have hget : ∀ (i : Nat) r, (b'.elems.take off ++ (news ++ b'.elems.drop (off + m)))[i]? = some r → (off ≤ i ∧ i < off + m ∧ news[i - off]? = some r) ∨ ((i < off ∨ off + m ≤ i) ∧ b'.elems[i]? = some r) := fun i r hr => by
  rcases Nat.lt_or_ge i off with hi | hi
  ·rw [List.getElem?_append_left (by simp; omega), List.getElem?_take, if_pos hi] at hr
   exact .inr ⟨.inl hi, hr⟩
  ·rw [List.getElem?_append_right (by simp; omega)] at hr
   have e9 : i - (b'.elems.take off).length = i - off := by simp; omega
   rw [e9] at hr
   rcases Nat.lt_or_ge i (off + m) with hi2 | hi2
   ·rw [List.getElem?_append_left (by omega)] at hr
    exact .inl ⟨hi, hi2, hr⟩
   ·rw [List.getElem?_append_right (by omega), List.getElem?_drop] at hr
    have e10 : off + m + (i - off - news.length) = i := by omega
    rw [e10] at hr
    exact .inr ⟨.inr hi2, hr⟩
 obtain ⟨h6, h7⟩ := hH.rewrite id b' { b' with elems := b'.elems.take off ++ (news ++ b'.elems.drop (off + m)) } hb hd hown cc tt hB
  (cc.toList.take (off * es) ++ nv ++ cc.toList.drop (off * es + m * es)).toArray
  (by simp; omega) rfl rfl hown hd (Nat.le_refl _) (fun _ => by simp only; omega) (by simp only; rw [hel2]; exact hlenB)
  (fun i r hr => by
   rcases hget i r hr with ⟨h1, h2, h8⟩ | ⟨_, h8⟩
   ·rw [hbes]; exact hrow _ r h8
   ·exact hB.rows i r h8)
  (fun i r k u hr hu => by
   have hsa := Qa5 (l := cc) (new := nv) (c := off * es) (k := i * b'.es + k) (by rw [hl]; exact hfc)
   rw [hl] at hsa
   rw [hsa, hbes]
   rcases hget i r hr with ⟨h1, h2, h8⟩ | ⟨h1, h8⟩
   ·have hk : k < es := by rw [← hrow _ r h8]; exact (List.getElem?_eq_some_iff.1 hu).1
    obtain ⟨u', h9, h10⟩ := hcell _ r k u h8 hu
    have e11 : i * es = off * es + (i - off) * es := by rw [← Nat.add_mul]; congr 1; omega
    have e12 : (i - off) * es + k < m * es := by
     have := Nat.mul_le_mul_right es (show i - off + 1 ≤ m by omega)
     rw [Nat.add_mul, Nat.one_mul] at this
     omega
    rw [if_pos (by omega)]
    refine ⟨u', ?_, h10⟩
    rw [show i * es + k - off * es = (i - off) * es + k by omega]
    exact h9
   ·have hk : k < es := by rw [← hbes, ← hB.rows _ r h8]; exact (List.getElem?_eq_some_iff.1 hu).1
    obtain ⟨u', h9, h10⟩ := hB.cell i r k u h8 hu
    rw [hoff0, Nat.zero_add, hbes] at h9
    have hnot : ¬ (off * es ≤ i * es + k ∧ i * es + k < off * es + m * es) := by
     rcases h1 with h1 | h1
     ·have := Nat.mul_le_mul_right es (show i + 1 ≤ off from h1)
      rw [Nat.add_mul, Nat.one_mul] at this
      omega
     ·have := Nat.mul_le_mul_right es h1
      rw [Nat.add_mul] at this
      omega
    rw [if_neg hnot]
    exact ⟨u', h9, h10⟩)
 exact ⟨hfc, h6, h7⟩
theorem Ab5 {P : Program} {t e : TypeId} {i : TypeInfo} (ty : TypeId) (ht : P.underlying t = some (.slice e)) (hi : P.info? e = some i) (g n cap : Nat) (x' : Value) (k : Nat) (cur : Array Value) (tt : TypeId) (nv : List Value)
  (hg : w.heap[g]? = some (.cells cur tt (0, 0))) (hx : (x' = .slice none 0 0 ∧ k = 0) ∨ ∃ ad c, x' = .slice (some ad) k c ∧ ∀ j v, nv[j]? = some v → w.cell? (ad.add j) = some v) (hl : nv.length = k * i.size) (hcap : n + k ≤ cap) (hfit : n * i.size + k * i.size ≤ cur.size) (h1 : ∀ v ∈ nv, v.oneCell' = true) :
  (Builtin.append_ #[t, t] ty #[.slice (some ⟨g, 0, none⟩) n cap, x']).run P w = .ok (.slice (some ⟨g, 0, none⟩) (n + k) cap) (w.setRow g (cur.toList.take (n * i.size) ++ nv ++ cur.toList.drop (n * i.size + k * i.size)).toArray) := by
 have hst := run_storeCells_at (P := P) g (n * i.size) tt nv 0 cur w hg (by rw [hl]; simpa using hfit) h1
 simp only [Nat.add_zero, hl] at hst
 have hadd : (⟨g, 0, none⟩ : Addr).add (n * i.size) = ⟨g, n * i.size, none⟩ := by
  have := T6 (ad := ⟨g, 0, none⟩) rfl (n * i.size)
  simpa using this
 rcases hx with ⟨rfl, rfl⟩ | ⟨ad, c, rfl, hc⟩
 ·have hn0 : nv = [] := List.eq_nil_of_length_eq_zero (by simpa using hl)
  subst hn0
  simp only [Nat.zero_mul, Nat.add_zero] at hst ⊢
  simp [Builtin.append_, run_underlying ht, sizeOf, typeInfo, hi, Builtin.lenOf, Builtin.firstCells, show n ≤ cap by omega, hadd, hst]
 ·have hf := run_firstCells_some (P := P) (w := w) i.size k ad k c nv hl hc
  simp [Builtin.append_, run_underlying ht, sizeOf, typeInfo, hi, Builtin.lenOf, hcap, hf, hadd, hst]
section
variable (hA : ca7 ρ H F w a ac.tmps) (hH : r8 W ρ H F w) (hG : GOk E F w)
include hA hH hG
theorem Fb4 {t e : TypeId} {y z : Operand} {c : Call} (ho : o.op = .call c) (hcb : c.callee = .builtin .append) (hca : c.args = #[y, z]) (hct : c.argTypes = #[t, t])
  (hu : E.P.underlying t = some (.slice e)) {ei : TypeInfo} (hei : E.P.info? e = some ei) (hes : 0 < ei.size)
  (he : (evalOp E a H (.apre (szT E.P e) (f0 y) (f0 z))).run = some (x, H')) : i5 E.P o ac w (J3 W ρ H F w x H') := by
 have hy := j5 hA hG y
 have hzr := j5 hA hG z
 have hes' : szT E.P e = ei.size := by simp [szT, hei]
 rw [hes'] at he
 simp only [evalOp, apreA] at he
 cases hel : elemsOf ei.size H (a9 E a (f0 z)) with
 | none => simp [hel] at he
 | some news =>
 simp only [hel] at he
 obtain ⟨nv, hN⟩ := jb7 hH hzr hel
 have hrun : ∀ {r : Value} {w' : World}, (Builtin.append_ #[t, t] o.type #[ac.eval y, ac.eval z]).run E.P w = .ok r w' → (execOp ac.eval o).run E.P w = .ok (.value r) w' := fun {r w'} h => by
  unfold execOp
  simp [ho, hcb, hca, hct, resolve, invoke, builtin, h]
 revert he hy
 generalize a9 E a (f0 y) = p
 intro hy he
 split at he
 ·have e0 := Q6 hy
  obtain ⟨h0, he⟩ := DT.run_guard_some he
  rw [j7] at h0
  have h0 := Nat.eq_of_beq_eq_true h0
  have he : some (a7.v (.slice none 0 0), H) = some (x, H') := he
  injection he with he; injection he with e1 e2; subst e1 e2
  rcases hN.form with ⟨hx, _⟩ | ⟨ad, cap, hx, _, _⟩
  ·exact .value (hrun (by rw [e0, hx]; exact W9 _ hu hei none none 0 0 0 (Nat.le_refl _) w)) (.stay hH (.ofv _))
  ·exact .value (hrun (by rw [e0, hx, h0]; exact W9 _ hu hei none (some ad) 0 0 cap (Nat.le_refl _) w)) (.stay hH (.ofv _))
 ·rename_i id off n g
  cases hbk : blkAt H id g with
  | none => simp [hbk] at he
  | some b =>
  obtain ⟨hb, hd, hg⟩ := q7 hbk
  simp only [hbk] at he
  split at he
  case h_2 => cases he
  rename_i hc4
  simp only [Bool.and_eq_true] at hc4
  obtain ⟨⟨hown, hoff⟩, hbes⟩ := hc4
  have hoff := Nat.eq_of_beq_eq_true hoff
  have hbes := Nat.eq_of_beq_eq_true hbes
  subst hoff
  obtain ⟨hle, he⟩ := DT.run_guard_some he
  rw [j7, j7] at hle
  have hle := Nat.le_of_ble_eq_true hle
  have he : some (a7.sl id 0 (n + len news) g, setAt H id { b with elems := app (E2 b.elems n) (app news (j8 b.elems (n + len news))) }) = some (x, H') := he
  injection he with he; injection he with e1 e2; subst e1 e2
  rw [y7, B4, B4, E3, E4, j7]
  obtain ⟨ad, cap, b', e0, hb', hd', hg', hn, hspot, hcm0, hh⟩ := ka8 hy
  have : b' = b := Option.some.inj (hb'.symm.trans hb)
  subst this
  obtain ⟨h3, h4, h5⟩ := hh hg
  obtain ⟨cc, tt, fr, hB⟩ := hH.blk id b' hb hd
  obtain ⟨hfr, hW, hoff0, hsize, hnF, htt⟩ := hB.own hown
  subst hfr
  obtain ⟨hfc, h6, h7⟩ := vc7 hH (off := n) hb hd hown hbes hB hN.len hN.rows hN.cell hle
  have had : ad = ⟨(ρ id).blk, 0, none⟩ := by
   rcases h3 with ⟨_, h⟩ | h
   ·omega
   ·rw [h, hoff0]; simp
  have hcap : n + news.length ≤ cap := by
   have h8 := hB.len
   rw [hbes] at h8
   rw [Nat.zero_add, hbes] at h4
   have h9 : b'.elems.length * ei.size ≤ cap * ei.size := by omega
   have := Nat.le_of_mul_le_mul_right h9 hes
   omega
  have hxf : (ac.eval z = .slice none 0 0 ∧ news.length = 0) ∨ ∃ ad cap, ac.eval z = .slice (some ad) news.length cap ∧ ∀ j v, nv[j]? = some v → w.cell? (ad.add j) = some v := by
   rcases hN.form with ⟨h1, h2⟩ | ⟨ad, cap, h1, _, h2⟩
   ·exact .inl ⟨h1, by simp [h2]⟩
   ·exact .inr ⟨ad, cap, h1, h2⟩
  have hr := Ab5 (P := E.P) (w := w) (t := t) o.type hu hei (ρ id).blk n cap (ac.eval z) news.length cc tt nv hB.obj hxf hN.len hcap hfc hN.one
  have hid : id < H.length := (List.getElem?_eq_some_iff.1 hb).1
  refine .value (hrun (by rw [e0, had]; exact hr)) ⟨ρ, F, h6, h7, .val (.cell (.sl _ _ _ _ _ _ { b' with elems := b'.elems.take n ++ (news ++ b'.elems.drop (n + news.length)) } (by simp [hid]) hd hg' hcap rfl hcm0 fun _ => ⟨.inr ?_, h4, by simp; omega⟩))⟩
  rw [hoff0]; simp
 ·cases he
theorem Sb2 {t e : TypeId} {y : Operand} {z : List a7} {c : Call} (ho : o.op = .call c) (hcb : c.callee = .builtin .clear) (hca : c.args = #[y]) (hct : c.argTypes = #[t])
  (hu : E.P.underlying t = some (.slice e)) (hz : zeT E.P e = some z) (hpos : 0 < szT E.P e)
  (he : (evalOp E a H (.clr (szT E.P e) z (f0 y))).run = some (x, H')) : i5 E.P o ac w (J3 W ρ H F w x H') := by
 have hy := j5 hA hG y
 obtain ⟨ti, zv, hi, hzz, hzr, hone⟩ := sa9 hz
 have hes' : szT E.P e = ti.size := by simp [szT, hi]
 rw [hes'] at he hpos
 simp only [evalOp] at he
 have he := Na8 he
 have hrun : ∀ {r : Value} {w' : World}, (Builtin.clear_ #[t] o.type #[ac.eval y]).run E.P w = .ok r w' → (execOp ac.eval o).run E.P w = .ok (.value r) w' := fun {r w'} h => by
  unfold execOp
  simp [ho, hcb, hca, hct, resolve, invoke, builtin, h]
 revert he hy
 generalize a9 E a (f0 y) = p
 intro hy he
 unfold clrA at he
 split at he
 ·have e0 := Q6 hy
  have he : some (a7.v (.tuple #[]), H) = some (x, H') := he
  injection he with he; injection he with e1 e2; subst e1 e2
  exact .value (hrun (by rw [e0]; simp [Builtin.clear_, run_underlying hu])) (.stay hH (.ofv _))
 ·rename_i id off n g
  cases hbk : blkAt H id g with
  | none => simp [hbk] at he
  | some b =>
  obtain ⟨hb, hd, hg⟩ := q7 hbk
  simp only [hbk] at he
  split at he
  case h_2 => cases he
  rename_i hc4
  simp only [Bool.and_eq_true] at hc4
  obtain ⟨⟨hown, hbes⟩, hzl⟩ := hc4
  have hbes := Nat.eq_of_beq_eq_true hbes
  rw [j7] at hzl
  have hzl := Nat.eq_of_beq_eq_true hzl
  have he : some (a7.v (.tuple #[]), setAt H id { b with elems := app (E2 b.elems off) (app (List.replicate n z) (j8 b.elems (off + n))) }) = some (x, H') := he
  injection he with he; injection he with e1 e2; subst e1 e2
  rw [y7, B4, B4, E3, E4]
  obtain ⟨ad, cap, b', e0, hb', hd', hg', hn, hspot, hcm0, hh⟩ := ka8 hy
  have : b' = b := Option.some.inj (hb'.symm.trans hb)
  subst this
  obtain ⟨h3, h4, h5⟩ := hh hg
  obtain ⟨cc, tt, fr, hB⟩ := hH.blk id b' hb hd
  obtain ⟨hfr, hW, hoff0, hsize, hnF, htt⟩ := hB.own hown
  subst hfr
  have hzs : zv.cells.size = ti.size := by rw [hzr] at hzl; simpa using hzl
  have hzc : (Builtin.zeroCells zv.cells n).toList.length = n * ti.size := by simp [Builtin.zeroCells, hzs]
  obtain ⟨hfc, h6, h7⟩ := vc7 hH (off := off) (news := List.replicate n z) (nv := (Builtin.zeroCells zv.cells n).toList) hb hd hown hbes hB (by rw [hzc, List.length_replicate]) (fun j r hr => by rw [List.getElem?_replicate] at hr; split at hr <;> cases hr; exact hzl)
   (fun j r k u hr hu => by
    rw [List.getElem?_replicate] at hr
    split at hr
    case isFalse => cases hr
    rename_i hj
    injection hr with hr
    subst hr
    have hk : k < ti.size := by rw [← hzl]; exact (List.getElem?_eq_some_iff.1 hu).1
    rw [hzr, List.getElem?_map] at hu
    have hkz : k < zv.cells.size := by omega
    have hq : zv.cells.toList[k]? = some zv.cells[k] := by simp [hkz]
    rw [hq] at hu
    injection hu with hu
    subst hu
    refine ⟨zv.cells[k], ?_, .v _ (hone _ (by simp))⟩
    have hlt : j * ti.size + k < n * ti.size := by
     have := Nat.mul_le_mul_right ti.size (show j + 1 ≤ n from hj)
     rw [Nat.add_mul, Nat.one_mul] at this
     omega
    have hm4 : (j * ti.size + k) % ti.size = k := by rw [Nat.mul_comm, Nat.mul_add_mod, Nat.mod_eq_of_lt hk]
    simp only [Builtin.zeroCells, hzs, Array.getElem?_toList]
    rw [Array.getElem?_map, Array.getElem?_range, if_pos hlt]
    simp [hm4, hkz])
   (by rw [List.length_replicate]; exact h5)
  simp only [List.length_replicate] at hfc h6 h7
  rcases Nat.eq_zero_or_pos n with hn0 | hn0
  ·subst hn0
   have hset : H.set id { b' with elems := b'.elems.take off ++ (List.replicate 0 z ++ b'.elems.drop (off + 0)) } = H := by
    have : ({ b' with elems := b'.elems.take off ++ (List.replicate 0 z ++ b'.elems.drop (off + 0)) } : a8) = b' := by simp
    rw [this]
    apply List.ext_getElem?
    intro k
    rcases Nat.lt_or_ge k H.length with hk | hk
    ·by_cases e : id = k
     ·subst e; rw [List.getElem?_set_self hk, hb]
     ·rw [List.getElem?_set_ne e]
    ·rw [List.getElem?_eq_none hk, List.getElem?_eq_none (by simpa using hk)]
   rw [hset]
   exact .value (hrun (by rw [e0]; simp [Builtin.clear_, run_underlying hu])) (.stay hH (.ofv _))
  ·have had : ad = ⟨(ρ id).blk, off * ti.size, none⟩ := by
    have := h3.resolve_left (by omega)
    rw [this, hoff0, hbes]; simp
   have hst := run_storeCells_at (P := E.P) (ρ id).blk (off * ti.size) tt (Builtin.zeroCells zv.cells n).toList 0 cc w hB.obj (by rw [hzc]; simpa using hfc) (fun v hv => by
    have hv' : v ∈ Builtin.zeroCells zv.cells n := by simpa using hv
    obtain ⟨q, hq, rfl⟩ := Array.mem_iff_getElem.1 hv'
    have hq' : q < n * ti.size := by rw [← hzc]; simpa using hq
    simp only [Builtin.zeroCells, Array.getElem_map, Array.getElem_range]
    have hqm : q % zv.cells.size < zv.cells.size := Nat.mod_lt _ (by omega)
    rw [getElem!_pos zv.cells _ hqm]
    exact hone _ (by simp))
   simp only [Nat.add_zero, hzc] at hst
   obtain ⟨n', rfl⟩ : ∃ n', n = n' + 1 := ⟨n - 1, by omega⟩
   refine .value (w' := w.setRow (ρ id).blk (cc.toList.take (off * ti.size) ++ (Builtin.zeroCells zv.cells (n' + 1)).toList ++ cc.toList.drop (off * ti.size + (n' + 1) * ti.size)).toArray) (hrun (r := .tuple #[]) ?_) ⟨ρ, F, h6, h7, .ofv _⟩
   rw [e0, had]
   simp [Builtin.clear_, run_underlying hu, zeroValue, typeInfo, hi, hzz, hst]
 ·cases he
end
end
end Go.Ev
namespace Go.Ev
open Go
def ja1 (cs : Array Value) (p : Nat × CK) : Prop := match p.2 with
 | .int k => ∃ n, cs[p.1]? = some (.int k n)
 | .bool => ∃ b, cs[p.1]? = some (.bool b)
 | _ => False
def ya5 (cs ds : Array Value) (p : Nat × CK) : Bool := match cs[p.1]?, ds[p.1]? with
 | some (.int _ a), some (.int _ b) => a == b
 | some (.bool a), some (.bool b) => a == b
 | _, _ => false
theorem Db0 {P : Program} {t : TypeId} (h : ∀ fs, P.underlying t ≠ some (.struct fs)) (h' : ∀ n e, P.underlying t ≠ some (.array n e)) : agT P t = false := by
 unfold agT
 split
 ·exact absurd ‹_› (h _)
 ·exact absurd ‹_› (h' _ _)
 ·rfl
section
variable {P : Program} {w : World}
theorem Fb5 {t : TypeId} {cs : Array Value} {off : Nat} {l : List (Nat × CK)} (hu : P.underlying t ≠ none) (hne : agT P t = false → l ≠ [] ∧ ∀ p ∈ l, p.1 = 0)
  (hl : ∀ p ∈ l, p.1 < szT P t) (hok : ∀ p ∈ l, ja1 cs (off + p.1, p.2)) :
  ∃ v, (part t cs off).run P w = .ok v w ∧ (agT P t = true → v = .agg v.cells) ∧ (agT P t = false → v.cells = #[v]) ∧ ∀ p ∈ l, v.cells[p.1]? = cs[off + p.1]? := by
 cases hd : P.underlying t with
 | none => exact absurd hd hu
 | some d =>
 obtain ⟨ti, hi1, hi2⟩ := Ea3 hd
 cases hag : agT P t with
 | true =>
  refine ⟨.agg (cs.extract off (off + szT P t)), by simp [part, Da6 hag, sizeOf, typeInfo, hi1, hi2], fun _ => rfl, (fun h => by cases h), fun p hp => ?_⟩
  have h1 := hl p hp
  have h2 : off + p.1 < cs.size := by
   have := hok p hp
   unfold ja1 at this
   split at this
   ·obtain ⟨n, h⟩ := this; exact (Array.getElem?_eq_some_iff.1 h).1
   ·obtain ⟨n, h⟩ := this; exact (Array.getElem?_eq_some_iff.1 h).1
   ·exact this.elim
  show (cs.extract off (off + szT P t))[p.1]? = _
  rw [Array.getElem?_extract, if_pos (by omega)]
 | false =>
  obtain ⟨hne, h0⟩ := hne hag
  obtain ⟨p, l', rfl⟩ := List.exists_cons_of_ne_nil hne
  have hp0 := h0 p (by simp)
  have hv : ∃ v, cs[off]? = some v ∧ v.cells = #[v] := by
   have := hok p (by simp)
   rw [hp0] at this
   unfold ja1 at this
   split at this
   ·obtain ⟨n, h⟩ := this; exact ⟨_, h, rfl⟩
   ·obtain ⟨n, h⟩ := this; exact ⟨_, h, rfl⟩
   ·exact this.elim
  obtain ⟨v, hv, hc⟩ := hv
  refine ⟨v, by simp [part, sa8 hag (by rw [hd]; simp), hv], (fun h => by cases h), fun _ => hc, fun q hq => ?_⟩
  rw [h0 q hq, hc]
  simpa using hv.symm
theorem oa1 {off n : Nat} {x : Option (List (Nat × CK))} {l : List (Nat × CK)} (h : Xa6 off n x = some l) : ∃ l', x = some l' ∧ (∀ p ∈ l', p.1 < n) ∧ l = l'.map fun p => (off + p.1, p.2) := by
 unfold Xa6 at h
 cases x with
 | none => cases h
 | some l' =>
  simp only at h
  split at h
  ·rename_i hall
   injection h with h
   refine ⟨l', rfl, fun p hp => ?_, h.symm⟩
   have h1 := List.all_eq_true.1 hall p hp
   have h2 : p.1 + 1 ≤ n := Nat.le_of_ble_eq_true h1
   omega
  ·cases h
theorem Cc1 {v v' : Value} {cs ds : Array Value} {off : Nat} {l : List (Nat × CK)} (h : ∀ p ∈ l, v.cells[p.1]? = cs[off + p.1]?) (h' : ∀ p ∈ l, v'.cells[p.1]? = ds[off + p.1]?) :
  l.all (ya5 v.cells v'.cells) = (l.map fun p => (off + p.1, p.2)).all (ya5 cs ds) := by
 induction l with
 | nil => rfl
 | cons p l ih =>
  rw [List.map_cons, List.all_cons, List.all_cons, ih (fun q hq => h q (by simp [hq])) (fun q hq => h' q (by simp [hq]))]
  congr 1
  unfold ya5
  rw [h p (by simp), h' p (by simp)]
structure Tc1 (P : Program) (w : World) (d : Nat) (t : TypeId) (l : List (Nat × CK)) : Prop where
 und : P.underlying t ≠ none
 one : agT P t = false → l ≠ [] ∧ ∀ p ∈ l, p.1 = 0
 eq : ∀ v v' : Value, (agT P t = true → v = .agg v.cells) → (agT P t = true → v' = .agg v'.cells) → (agT P t = false → v.cells = #[v]) → (agT P t = false → v'.cells = #[v']) → (∀ p ∈ l, ja1 v.cells p) → (∀ p ∈ l, ja1 v'.cells p) → (Op.equalIn d t v v').run P w = .ok (l.all (ya5 v.cells v'.cells)) w
theorem Tc1.step {d : Nat} {t : TypeId} {l : List (Nat × CK)} (h : Tc1 P w d t l) {xs ys : Array Value} {off : Nat} (hl : ∀ p ∈ l, p.1 < szT P t) (hx : ∀ p ∈ l.map fun p => (off + p.1, p.2), ja1 xs p) (hy : ∀ p ∈ l.map fun p => (off + p.1, p.2), ja1 ys p) :
  ∃ a b, (part t xs off).run P w = .ok a w ∧ (part t ys off).run P w = .ok b w ∧ (Op.equalIn d t a b).run P w = .ok ((l.map fun p => (off + p.1, p.2)).all (ya5 xs ys)) w := by
 have hx' : ∀ p ∈ l, ja1 xs (off + p.1, p.2) := fun p hp => hx _ (List.mem_map.2 ⟨p, hp, rfl⟩)
 have hy' : ∀ p ∈ l, ja1 ys (off + p.1, p.2) := fun p hp => hy _ (List.mem_map.2 ⟨p, hp, rfl⟩)
 obtain ⟨a, a1, a2, a4, a3⟩ := Fb5 (w := w) h.und h.one hl hx'
 obtain ⟨b, b1, b2, b4, b3⟩ := Fb5 (w := w) h.und h.one hl hy'
 refine ⟨a, b, a1, b1, ?_⟩
 rw [← Cc1 a3 b3]
 refine h.eq a b a2 b2 a4 b4 (fun p hp => ?_) (fun p hp => ?_)
 ·have := hx' p hp; unfold ja1 at this ⊢; rw [a3 p hp]; exact this
 ·have := hy' p hp; unfold ja1 at this ⊢; rw [b3 p hp]; exact this
theorem db2 : ∀ (d : Nat) (t : TypeId) (l : List (Nat × CK)), Q5 P d t = some l → Tc1 P w d t l
 | 0, _, _, h => by cases h
 | d + 1, t, l, h => by
  unfold Q5 at h
  cases hu : P.underlying t with
  | none => simp [hu] at h
  | some u =>
  cases u with
  | int k =>
   simp only [hu] at h
   injection h with h; subst h
   have hag : agT P t = false := Db0 (by simp [hu]) (by simp [hu])
   refine ⟨by simp [hu], fun _ => ⟨by simp, by simp⟩, fun v v' _ _ k1 k2 h1 h2 => ?_⟩
   obtain ⟨n, e1⟩ := h1 (0, .int k) (by simp)
   obtain ⟨m, e2⟩ := h2 (0, .int k) (by simp)
   rw [k1 hag] at e1
   rw [k2 hag] at e2
   have e1' : v = .int k n := by simpa using e1
   have e2' : v' = .int k m := by simpa using e2
   subst e1' e2'
   rw [run_equalIn_int w d t k k n m hu]
   simp [ya5, Value.cells]
  | bool =>
   simp only [hu] at h
   injection h with h; subst h
   have hag : agT P t = false := Db0 (by simp [hu]) (by simp [hu])
   refine ⟨by simp [hu], fun _ => ⟨by simp, by simp⟩, fun v v' _ _ k1 k2 h1 h2 => ?_⟩
   obtain ⟨n, e1⟩ := h1 (0, .bool) (by simp)
   obtain ⟨m, e2⟩ := h2 (0, .bool) (by simp)
   rw [k1 hag] at e1
   rw [k2 hag] at e2
   have e1' : v = .bool n := by simpa using e1
   have e2' : v' = .bool m := by simpa using e2
   subst e1' e2'
   rw [run_equalIn_bool w d t n m hu]
   simp [ya5, Value.cells]
  | struct fs =>
   simp only [hu] at h
   split at h
   ·cases h
   rename_i hp
   refine ⟨by simp [hu], fun hag => by simp [agT, hu] at hag, fun v v' h1 h2 _ _ h3 h4 => ?_⟩
   have hag : agT P t = true := by simp [agT, hu]
   rw [h1 hag, h2 hag]
   generalize v.cells = xs at *
   generalize v'.cells = ys at *
   have hfo : P.fieldsOf t = fs := by simp [Program.fieldsOf, hu]
   rw [run_equalIn_struct w d t xs ys (by rw [hfo]; exact hu) (by simpa using hp), hfo]
   show _ = Result.ok (l.all (ya5 xs ys)) w
   clear hfo hu h1 h2 hag
   generalize fs.toList = fl at *
   induction fl generalizing l with
   | nil =>
    simp only [List.map_nil, Y7] at h
    injection h with h; subst h
    simp [Op.eqFields]
   | cons f fl ih =>
    simp only [List.map_cons, Y7] at h
    split at h
    ·rename_i l1 l2 e1 e2
     injection h with h; subst h
     split at e1
     ·cases e1
     rename_i hnm
     obtain ⟨l', g1, g2, g3⟩ := oa1 e1
     subst g3
     obtain ⟨a, b, p1, p2, p3⟩ := (db2 d f.type l' g1).step (w := w) g2 (fun p hp => h3 p (List.mem_append_left _ hp)) (fun p hp => h4 p (List.mem_append_left _ hp))
     rw [List.all_append]
     simp only [Op.eqFields]
     rw [if_pos hnm]
     simp only [Sem.run_bind, p1, p2, p3, Result.andThen_ok]
     cases hb : ((l'.map fun p => (f.offset + p.1, p.2)).all (ya5 xs ys)) with
     | false => simp
     | true =>
      simp only [Bool.not_true, Bool.false_eq_true, if_false, Bool.true_and]
      exact ih l2 (fun p hp => h3 p (List.mem_append_right _ hp)) (fun p hp => h4 p (List.mem_append_right _ hp)) e2
    ·cases h
  | array n e =>
   simp only [hu] at h
   split at h
   case isFalse => cases h
   rename_i hi
   obtain ⟨ti, hi⟩ := Option.isSome_iff_exists.1 hi
   refine ⟨by simp [hu], fun hag => by simp [agT, hu] at hag, fun v v' h1 h2 _ _ h3 h4 => ?_⟩
   have hag : agT P t = true := by simp [agT, hu]
   rw [h1 hag, h2 hag]
   generalize v.cells = xs at *
   generalize v'.cells = ys at *
   have hsz : P.cellsOf e = szT P e := by simp [Program.cellsOf, szT, hi]
   rw [run_equalIn_array w d xs ys hu hi, hsz]
   show _ = Result.ok (l.all (ya5 xs ys)) w
   clear hu h1 h2 hag
   generalize List.range n = fl at *
   induction fl generalizing l with
   | nil =>
    simp only [List.map_nil, Y7] at h
    injection h with h; subst h
    simp [Op.eqItems]
   | cons f fl ih =>
    simp only [List.map_cons, Y7] at h
    split at h
    ·rename_i l1 l2 e1 e2
     injection h with h; subst h
     obtain ⟨l', g1, g2, g3⟩ := oa1 e1
     subst g3
     obtain ⟨a, b, p1, p2, p3⟩ := (db2 d e l' g1).step (w := w) g2 (fun p hp => h3 p (List.mem_append_left _ hp)) (fun p hp => h4 p (List.mem_append_left _ hp))
     rw [List.all_append]
     simp only [Op.eqItems]
     simp only [Sem.run_bind, p1, p2, p3, Result.andThen_ok]
     cases hb : ((l'.map fun p => (f * szT P e + p.1, p.2)).all (ya5 xs ys)) with
     | false => simp
     | true =>
      simp only [Bool.not_true, Bool.false_eq_true, if_false, Bool.true_and]
      exact ih l2 (fun p hp => h3 p (List.mem_append_right _ hp)) (fun p hp => h4 p (List.mem_append_right _ hp)) e2
    ·cases h
  | _ => simp [hu] at h
end
section
variable {W : Nat → Prop} {ρ : Rho} {H H' : List a8} {F : Fz} {w : World} {E : Env} {o : Oper} {a : List a7} {ac : Act} {x : a7}
theorem nb9 (cs : List a7) (n : Nat) : hdA (j8 cs n) = (cs[n]?).getD .unk := by
 rw [E4]
 induction cs generalizing n with
 | nil => cases n <;> rfl
 | cons c r ih =>
  cases n with
  | zero => rfl
  | succ n => simpa using ih n
theorem Ya1 {cs : List a7} {vs : Array Value} (hl : cs.length = vs.size) (hr : ∀ (i : Nat) x x', cs[i]? = some x → vs[i]? = some x' → P6 ρ H F w x x') {k : CK} {n : Nat} (hk : (∃ i, k = .int i) ∨ k = .bool) (h : fb6 k (hdA (j8 cs n)) = true) :
  ja1 vs (n, k) ∧ ∃ v, vs[n]? = some v ∧ hdA (j8 cs n) = .v v := by
 rw [nb9] at h ⊢
 rcases Nat.lt_or_ge n cs.length with hlt | hge
 ·rw [List.getElem?_eq_getElem hlt] at h ⊢
  simp only [Option.getD_some] at h ⊢
  have hlt' : n < vs.size := hl ▸ hlt
  have hc := hr n _ _ (List.getElem?_eq_getElem hlt) (Array.getElem?_eq_getElem hlt')
  generalize cs[n] = y at *
  have hy : ∃ v, y = .v v ∧ ((∃ i m, k = .int i ∧ v = .int i m) ∨ (k = .bool ∧ ∃ m, v = .bool m)) := by
   rcases hk with ⟨i, rfl⟩ | rfl
   ·cases y with
    | v u =>
     cases u with
     | int k' m =>
      have : i = k' := by simpa [fb6] using h
      subst this
      exact ⟨_, rfl, .inl ⟨_, _, rfl, rfl⟩⟩
     | _ => cases h
    | _ => cases h
   ·cases y with
    | v u =>
     cases u with
     | bool m => exact ⟨_, rfl, .inr ⟨rfl, _, rfl⟩⟩
     | _ => cases h
    | _ => cases h
  obtain ⟨v, rfl, hv⟩ := hy
  have := Q6 (.val (.cell hc))
  refine ⟨?_, v, by rw [Array.getElem?_eq_getElem hlt', this], rfl⟩
  rcases hv with ⟨i, m, rfl, rfl⟩ | ⟨rfl, m, rfl⟩
  ·exact ⟨m, by rw [Array.getElem?_eq_getElem hlt', this]⟩
  ·exact ⟨m, by rw [Array.getElem?_eq_getElem hlt', this]⟩
 ·rw [List.getElem?_eq_none hge] at h
  rcases hk with ⟨i, rfl⟩ | rfl <;> cases h
theorem Ea5 {P : Program} : ∀ (d : Nat) (t : TypeId) (l : List (Nat × CK)), Q5 P d t = some l → ∀ p ∈ l, (∃ i, p.2 = .int i) ∨ p.2 = .bool
 | 0, _, _, h => by cases h
 | d + 1, t, l, h => by
  have hs : ∀ {off n : Nat} {e : TypeId} {l : List (Nat × CK)}, Xa6 off n (Q5 P d e) = some l → ∀ p ∈ l, (∃ i, p.2 = .int i) ∨ p.2 = .bool := fun {off n e l} h p hp => by
   obtain ⟨l', g1, _, rfl⟩ := oa1 h
   obtain ⟨q, hq, rfl⟩ := List.mem_map.1 hp
   exact Ea5 d e l' g1 q hq
  have hc : ∀ (xs : List (Option (List (Nat × CK)))) (l : List (Nat × CK)), (∀ x ∈ xs, ∀ l, x = some l → ∀ p ∈ l, (∃ i, p.2 = .int i) ∨ p.2 = .bool) → Y7 xs = some l → ∀ p ∈ l, (∃ i, p.2 = .int i) ∨ p.2 = .bool := fun xs => by
   induction xs with
   | nil => intro l _ h; simp only [Y7] at h; injection h with h; subst h; simp
   | cons x xs ih =>
    intro l hx h
    simp only [Y7] at h
    cases x with
    | none => cases h
    | some l1 =>
    cases e2 : Y7 xs with
    | none => simp [e2] at h
    | some l2 =>
    simp only [e2] at h
    injection h with h; subst h
    intro p hp
    rcases List.mem_append.1 hp with hp | hp
    ·exact hx (some l1) (by simp) _ rfl p hp
    ·exact ih l2 (fun x hx' => hx x (by simp [hx'])) e2 p hp
  unfold Q5 at h
  split at h
  ·injection h with h; subst h; intro p hp; simp at hp; subst hp; exact .inl ⟨_, rfl⟩
  ·injection h with h; subst h; intro p hp; simp at hp; subst hp; exact .inr rfl
  ·split at h
   ·cases h
   ·refine hc _ _ (fun x hx l hl => ?_) h
    obtain ⟨f, _, rfl⟩ := List.mem_map.1 hx
    split at hl
    ·cases hl
    ·exact hs hl
  ·split at h
   ·refine hc _ _ (fun x hx l hl => ?_) h
    obtain ⟨f, _, rfl⟩ := List.mem_map.1 hx
    exact hs hl
   ·cases h
  ·cases h
theorem Ya2 {α : Type} {f g : α → Option (List (Nat × CK))} (h : ∀ x l, f x = some l → g x = some l) : ∀ (xs : List α) (l : List (Nat × CK)), Y7 (xs.map f) = some l → Y7 (xs.map g) = some l
 | [], _, e => e
 | x :: xs, l, e => by
  simp only [List.map_cons, Y7] at e ⊢
  cases h1 : f x with
  | none => simp [h1] at e
  | some l1 =>
  cases h2 : Y7 (xs.map f) with
  | none => simp [h1, h2] at e
  | some l2 =>
  rw [h x l1 h1, Ya2 h xs l2 h2]
  simpa [h1, h2] using e
theorem zb0 {off n : Nat} {x y : Option (List (Nat × CK))} (h : ∀ l, x = some l → y = some l) {l : List (Nat × CK)} (e : Xa6 off n x = some l) : Xa6 off n y = some l := by
 cases hx : x with
 | none => rw [hx] at e; cases e
 | some l' => rw [h l' hx, ← hx]; exact e
theorem Fb6 {P : Program} : ∀ (d : Nat) (t : TypeId) (l : List (Nat × CK)), Q5 P d t = some l → Q5 P (d + 1) t = some l
 | 0, _, _, h => by cases h
 | d + 1, t, l, h => by
  have ih := Fb6 (P := P) d
  unfold Q5 at h ⊢
  split at h
  ·exact h
  ·exact h
  ·split at h
   ·cases h
   ·rename_i h1
    rw [if_neg h1]
    refine Ya2 (fun f l e => ?_) _ _ h
    split at e
    ·cases e
    ·rename_i h2
     rw [if_neg h2]
     exact zb0 (ih _) e
  ·split at h
   ·rename_i h1
    rw [if_pos h1]
    exact Ya2 (fun f l e => zb0 (ih _) e) _ _ h
   ·cases h
  ·cases h
theorem jb9 {P : Program} {d : Nat} {t : TypeId} {l : List (Nat × CK)} (h : Q5 P d t = some l) : ∀ k, Q5 P (d + k) t = some l
 | 0 => h
 | k + 1 => Fb6 _ _ _ (jb9 h k)
theorem Fb7 {fl : List (Nat × CK)} {cs : List a7} (h : oc9 fl cs = true) : ∀ p ∈ fl, fb6 p.2 (hdA (j8 cs p.1)) = true := by
 induction fl with
 | nil => simp
 | cons p fl ih =>
  have h' : Bool.and (fb6 p.2 (hdA (j8 cs p.1))) (oc9 fl cs) = true := h
  simp only [Bool.and_eq_true] at h'
  intro q hq
  rcases List.mem_cons.1 hq with rfl | hq
  ·exact h'.1
  ·exact ih h'.2 q hq
section
variable (hA : ca7 ρ H F w a ac.tmps) (hH : r8 W ρ H F w) (hG : GOk E F w)
include hA hH hG
theorem Sb3 {op : BinOp} {neg : Bool} {t u : TypeId} {y z : Operand} {fl : List (Nat × CK)} (ho : o.op = .binOp op t y z u) (hop : (op = .eql ∧ neg = false) ∨ (op = .neq ∧ neg = true)) (hag : agT E.P t = true) (hf : Q5 E.P 9 t = some fl) (hgt : E.P.eqGuardType E.P.depth t = false)
  (he : (evalOp E a H (.eqc neg fl (f0 y) (f0 z))).run = some (x, H')) : i5 E.P o ac w (J3 W ρ H F w x H') := by
 have hy := j5 hA hG y
 have hz := j5 hA hG z
 simp only [evalOp] at he
 revert he hy hz
 generalize a9 E a (f0 y) = p
 generalize a9 E a (f0 z) = q
 intro he hy hz
 split at he
 case h_2 => cases he
 rename_i cs ds
 have hh := DT.run_guard_some he
 clear he
 obtain ⟨hg, he⟩ := hh
 simp only [Bool.and_eq_true] at hg
 have he' : some (a7.v (.bool (ad4 neg (fb7 fl cs ds))), H) = some (x, H') := he
 injection he' with he'; injection he' with e1 e2; subst e1 e2
 obtain ⟨vs, ey, hl, hr⟩ := ja0 hy
 obtain ⟨us, ez, hl', hr'⟩ := ja0 hz
 have hk := Ea5 9 t fl hf
 have h1 := Fb7 hg.1
 have h2 := Fb7 hg.2
 have k1 : ∀ p ∈ fl, ja1 vs p := fun p hp => (Ya1 hl hr (hk p hp) (h1 p hp)).1
 have k2 : ∀ p ∈ fl, ja1 us p := fun p hp => (Ya1 hl' hr' (hk p hp) (h2 p hp)).1
 have hF' := (db2 (w := w) (9 + 9991) t fl (jb9 hf 9991)).eq (.agg vs) (.agg us) (fun _ => rfl) (fun _ => rfl) (fun h => by rw [hag] at h; cases h) (fun h => by rw [hag] at h; cases h) k1 k2
 have heq : fl.all (ya5 vs us) = fb7 fl cs ds := by
  clear hF' hg hf he
  induction fl with
  | nil => rfl
  | cons p fl ih =>
   have e : fb7 (p :: fl) cs ds = (cd7 p.2 (hdA (j8 cs p.1)) (hdA (j8 ds p.1)) && fb7 fl cs ds) := rfl
   rw [List.all_cons, ih (fun q hq => hk q (by simp [hq])) (fun q hq => h1 q (by simp [hq])) (fun q hq => h2 q (by simp [hq])) (fun q hq => k1 q (by simp [hq])) (fun q hq => k2 q (by simp [hq])), e]
   congr 1
   obtain ⟨g1, v, g2, g3⟩ := Ya1 hl hr (hk p (by simp)) (h1 p (by simp))
   obtain ⟨g4, v', g5, g6⟩ := Ya1 hl' hr' (hk p (by simp)) (h2 p (by simp))
   obtain ⟨n, kk⟩ := p
   simp only at *
   rw [g3, g6]
   unfold ya5
   rw [g2, g5]
   rcases hk (n, kk) (by simp) with ⟨i, hi⟩ | hi
   ·simp only at hi; subst hi
    obtain ⟨m, hm⟩ := g1
    obtain ⟨m', hm'⟩ := g4
    simp only [g2, g5, Option.some.injEq] at hm hm'
    subst hm hm'
    rfl
   ·simp only at hi; subst hi
    obtain ⟨m, hm⟩ := g1
    obtain ⟨m', hm'⟩ := g4
    simp only [g2, g5, Option.some.injEq] at hm hm'
    subst hm hm'
    rfl
 rw [← heq]
 have hF' : (Op.equalIn 10000 t (.agg vs) (.agg us)).run E.P w = .ok (fl.all (ya5 vs us)) w := hF'
 rcases hop with ⟨rfl, rfl⟩ | ⟨rfl, rfl⟩
 ·refine .value (x' := .bool (fl.all (ya5 vs us))) (w' := w) ?_ (.stay hH (.ofv _))
  simp only [execOp, ho, ey, ez, Sem.run_bind, run_eqGuard_agg w .eql t y z vs us hgt, Result.andThen_ok, run_eql_struct, hF', Sem.run_pure]
 ·refine .value (x' := .bool (!(fl.all (ya5 vs us)))) (w' := w) ?_ (.stay hH (.ofv _))
  simp only [execOp, ho, ey, ez, Sem.run_bind, run_eqGuard_agg w .neq t y z vs us hgt, Result.andThen_ok, run_neq_struct, hF', Sem.run_pure]
end
end
end Go.Ev
