/- Renaming the blocks: at a loop's head, at a function's end (own work). -/
import Derived.Test.YtblhkhjdkjjheaaEvOne
set_option linter.unusedVariables false
set_option linter.unusedSimpArgs false
set_option linter.unnecessarySimpa false
set_option linter.unusedSectionVars false
namespace Go.Ev
open Go
section
variable {W : Nat → Prop} {ρ ρ0 : Rho} {H H0 H2 : List ABlk} {F F0 : Fz} {w w0 : World} {k : Nat} {roots : List Nat}

structure TOk (k : Nat) (roots : List Nat) : Prop where
  nodup : roots.Nodup
  first : ∀ i, i < k → roots[i]? = some i
def TLe (r s : List Nat) : Prop := ∀ (i : Nat) y, r[i]? = some y → s[i]? = some y
theorem TLe.refl (r : List Nat) : TLe r r := fun _ _ h => h
theorem TLe.trans {r s t : List Nat} (h : TLe r s) (k : TLe s t) : TLe r t := fun i y hy => k i y (h i y hy)

theorem TOk.start (k : Nat) : TOk k (List.range k) := ⟨List.nodup_range, fun i hi => by rw [List.getElem?_range hi]⟩
theorem TOk.idx {id j : Nat} {r : List Nat} (hr : TOk k roots) (h : idxIn roots id = (j, r)) : TOk k r ∧ TLe roots r ∧ r[j]? = some id := by
  obtain ⟨h1, h2, h3, _⟩ := idxIn_ok hr.nodup h
  exact ⟨⟨h2, fun i hi => h3 i i (hr.first i hi)⟩, h3, h1⟩

def gAt (k j g : Nat) : Nat := match Nat.blt j k with | true => g | false => 0
inductive TC (k : Nat) (H : List ABlk) (r : List Nat) : AVal → AVal → Prop
  | unk (x : AVal) : TC k H r x .unk
  | ptr (id i c g j : Nat) (b : ABlk) (hb : blkAt H id g = some b) (hj : r[j]? = some id) : TC k H r (.ptr id i c g) (.ptr j i c (gAt k j g))
  | sl (id off n g j : Nat) (b : ABlk) (hb : blkAt H id g = some b) (hj : r[j]? = some id) : TC k H r (.sl id off n g) (.sl j off n (gAt k j g))
  | same (x : AVal) (h : match x with | .ptr .. | .sl .. => False | _ => True) : TC k H r x x
inductive TV (k : Nat) (H : List ABlk) (r : List Nat) : AVal → AVal → Prop
  | cell {x z : AVal} (hx : isBare x = true) (h : TC k H r x z) : TV k H r x z
  | agg (cs ds : List AVal) (hl : ds.length = cs.length) (h : ∀ (i : Nat) x z, cs[i]? = some x → ds[i]? = some z → TC k H r x z) : TV k H r (.agg cs) (.agg ds)
  | fn (f : FuncId) (cs ds : List AVal) (hl : ds.length = cs.length) (h : ∀ (i : Nat) x z, cs[i]? = some x → ds[i]? = some z → TC k H r x z) : TV k H r (.fn f cs) (.fn f ds)
  | tup (l : List AVal) : TV k H r (.tup l) (.tup l)
inductive TW (k : Nat) (H : List ABlk) (r : List Nat) : AVal → AVal → Prop
  | val {x z : AVal} (hx : ∀ l, x ≠ .tup l) (h : TV k H r x z) : TW k H r x z
  | tup (cs ds : List AVal) (hl : ds.length = cs.length) (h : ∀ (i : Nat) x z, cs[i]? = some x → ds[i]? = some z → TV k H r x z) : TW k H r (.tup cs) (.tup ds)
theorem TC.le {r s : List Nat} {x z : AVal} (h : TC k H r x z) (hle : TLe r s) : TC k H s x z := by
  cases h with
  | unk x => exact .unk x
  | ptr id i c g j b hb hj => exact .ptr id i c g j b hb (hle _ _ hj)
  | sl id off n g j b hb hj => exact .sl id off n g j b hb (hle _ _ hj)
  | same x h => exact .same x h
theorem TV.le {r s : List Nat} {x z : AVal} (h : TV k H r x z) (hle : TLe r s) : TV k H s x z := by
  cases h with
  | cell hx h => exact .cell hx (h.le hle)
  | agg cs ds hl h => exact .agg cs ds hl fun i x z hx hz => (h i x z hx hz).le hle
  | fn f cs ds hl h => exact .fn f cs ds hl fun i x z hx hz => (h i x z hx hz).le hle
  | tup l => exact .tup l
theorem TW.le {r s : List Nat} {x z : AVal} (h : TW k H r x z) (hle : TLe r s) : TW k H s x z := by
  cases h with
  | val hx h => exact .val hx (h.le hle)
  | tup cs ds hl h => exact .tup cs ds hl fun i x z hx hz => (h i x z hx hz).le hle

theorem tidy1_ok {x z : AVal} {r : List Nat} (hr : TOk k roots) (h : tidy1 k H roots x = (z, r)) : TOk k r ∧ TLe roots r ∧ TC k H r x z := by
  have hsame : ∀ {y : AVal}, (y, roots) = (z, r) → TC k H roots x y → TOk k r ∧ TLe roots r ∧ TC k H r x z := fun {y} e hc => by
    injection e with e1 e2
    subst e1 e2
    exact ⟨hr, .refl _, hc⟩
  unfold tidy1 at h
  cases x with
  | ptr id i c g =>
    simp only at h
    cases hb : blkAt H id g with
    | none => simp only [hb] at h; exact hsame h (.unk _)
    | some b =>
      simp only [hb] at h
      cases hi : idxIn roots id with
      | mk j r2 =>
        simp only [hi] at h
        injection h with e1 e2
        subst e1 e2
        obtain ⟨h1, h2, h3⟩ := hr.idx hi
        exact ⟨h1, h2, .ptr id i c g j b hb h3⟩
  | sl id off n g =>
    simp only at h
    cases hb : blkAt H id g with
    | none => simp only [hb] at h; exact hsame h (.unk _)
    | some b =>
      simp only [hb] at h
      cases hi : idxIn roots id with
      | mk j r2 =>
        simp only [hi] at h
        injection h with e1 e2
        subst e1 e2
        obtain ⟨h1, h2, h3⟩ := hr.idx hi
        exact ⟨h1, h2, .sl id off n g j b hb h3⟩
  | _ => exact hsame h (.same _ trivial)

theorem tidyL_ok : ∀ {l z : List AVal} {roots r : List Nat}, TOk k roots → tidyL k H l roots = (z, r) → TOk k r ∧ TLe roots r ∧ z.length = l.length ∧ ∀ (i : Nat) x y, l[i]? = some x → z[i]? = some y → TC k H r x y
  | [], z, roots, r, hr, h => by
    simp only [tidyL] at h
    injection h with e1 e2
    subst e1 e2
    exact ⟨hr, .refl _, rfl, fun i x y hx => by simp at hx⟩
  | x :: l, z, roots, r, hr, h => by
    simp only [tidyL] at h
    cases h1 : tidy1 k H roots x with
    | mk y r1 =>
    simp only [h1] at h
    cases h2 : tidyL k H l r1 with
    | mk l2 r2 =>
    simp only [h2] at h
    injection h with e1 e2
    subst e1 e2
    obtain ⟨a1, a2, a3⟩ := tidy1_ok hr h1
    obtain ⟨b1, b2, b3, b4⟩ := tidyL_ok a1 h2
    refine ⟨b1, a2.trans b2, by simp [b3], fun i u v hu hv => ?_⟩
    cases i with
    | zero => simp at hu hv; subst hu hv; exact a3.le b2
    | succ i => exact b4 i u v (by simpa using hu) (by simpa using hv)

theorem tidyV1_ok {x z : AVal} {r : List Nat} (hr : TOk k roots) (h : tidyV1 k H roots x = (z, r)) : TOk k r ∧ TLe roots r ∧ TV k H r x z := by
  have h1 : ∀ (hx : isBare x = true), tidy1 k H roots x = (z, r) → TOk k r ∧ TLe roots r ∧ TV k H r x z := fun hx h => by
    obtain ⟨a1, a2, a3⟩ := tidy1_ok hr h
    exact ⟨a1, a2, .cell hx a3⟩
  cases x with
  | fn f caps =>
    simp only [tidyV1] at h
    cases h2 : tidyL k H caps roots with
    | mk l r2 =>
    simp only [h2] at h
    injection h with e1 e2
    subst e1 e2
    obtain ⟨b1, b2, b3, b4⟩ := tidyL_ok hr h2
    exact ⟨b1, b2, .fn f caps l b3 b4⟩
  | agg caps =>
    simp only [tidyV1] at h
    cases h2 : tidyL k H caps roots with
    | mk l r2 =>
    simp only [h2] at h
    injection h with e1 e2
    subst e1 e2
    obtain ⟨b1, b2, b3, b4⟩ := tidyL_ok hr h2
    exact ⟨b1, b2, .agg caps l b3 b4⟩
  | tup l =>
    simp only [tidyV1, tidy1] at h
    injection h with e1 e2
    subst e1 e2
    exact ⟨hr, .refl _, .tup l⟩
  | _ => exact h1 rfl h

theorem tidyVL_ok : ∀ {l z : List AVal} {roots r : List Nat}, TOk k roots → tidyVL k H l roots = (z, r) → TOk k r ∧ TLe roots r ∧ z.length = l.length ∧ ∀ (i : Nat) x y, l[i]? = some x → z[i]? = some y → TV k H r x y
  | [], z, roots, r, hr, h => by
    simp only [tidyVL] at h
    injection h with e1 e2
    subst e1 e2
    exact ⟨hr, .refl _, rfl, fun i x y hx => by simp at hx⟩
  | x :: l, z, roots, r, hr, h => by
    simp only [tidyVL] at h
    cases h1 : tidyV1 k H roots x with
    | mk y r1 =>
    simp only [h1] at h
    cases h2 : tidyVL k H l r1 with
    | mk l2 r2 =>
    simp only [h2] at h
    injection h with e1 e2
    subst e1 e2
    obtain ⟨a1, a2, a3⟩ := tidyV1_ok hr h1
    obtain ⟨b1, b2, b3, b4⟩ := tidyVL_ok a1 h2
    refine ⟨b1, a2.trans b2, by simp [b3], fun i u v hu hv => ?_⟩
    cases i with
    | zero => simp at hu hv; subst hu hv; exact a3.le b2
    | succ i => exact b4 i u v (by simpa using hu) (by simpa using hv)

theorem tidyV_ok {x z : AVal} {r : List Nat} (hr : TOk k roots) (h : tidyV k H roots x = (z, r)) : TOk k r ∧ TLe roots r ∧ TW k H r x z := by
  have h1 : (∀ l, x ≠ .tup l) → tidyV1 k H roots x = (z, r) → TOk k r ∧ TLe roots r ∧ TW k H r x z := fun hx h => by
    obtain ⟨a1, a2, a3⟩ := tidyV1_ok hr h
    exact ⟨a1, a2, .val hx a3⟩
  cases x with
  | tup caps =>
    simp only [tidyV] at h
    cases h2 : tidyVL k H caps roots with
    | mk l r2 =>
    simp only [h2] at h
    injection h with e1 e2
    subst e1 e2
    obtain ⟨b1, b2, b3, b4⟩ := tidyVL_ok hr h2
    exact ⟨b1, b2, .tup caps l b3 b4⟩
  | _ => exact h1 (fun _ e => by cases e) h

theorem tidyA_ok : ∀ {l z : List AVal} {roots r : List Nat}, TOk k roots → tidyA k H l roots = (z, r) → TOk k r ∧ TLe roots r ∧ z.length = l.length ∧ ∀ (i : Nat) x y, l[i]? = some x → z[i]? = some y → TW k H r x y
  | [], z, roots, r, hr, h => by
    simp only [tidyA] at h
    injection h with e1 e2
    subst e1 e2
    exact ⟨hr, .refl _, rfl, fun i x y hx => by simp at hx⟩
  | x :: l, z, roots, r, hr, h => by
    simp only [tidyA] at h
    cases h1 : tidyV k H roots x with
    | mk y r1 =>
    simp only [h1] at h
    cases h2 : tidyA k H l r1 with
    | mk l2 r2 =>
    simp only [h2] at h
    injection h with e1 e2
    subst e1 e2
    obtain ⟨a1, a2, a3⟩ := tidyV_ok hr h1
    obtain ⟨b1, b2, b3, b4⟩ := tidyA_ok a1 h2
    refine ⟨b1, a2.trans b2, by simp [b3], fun i u v hu hv => ?_⟩
    cases i with
    | zero => simp at hu hv; subst hu hv; exact a3.le b2
    | succ i => exact b4 i u v (by simpa using hu) (by simpa using hv)

def reG (k j : Nat) (b : ABlk) : ABlk := match Nat.blt j k with | true => b | false => { b with g := 0 }
theorem blksK_ok : ∀ {roots : List Nat} {j0 : Nat} {H2 : List ABlk}, blksK k H j0 roots = some H2 → H2.length = roots.length ∧ ∀ (j : Nat) id, roots[j]? = some id → ∃ b, H[id]? = some b ∧ H2[j]? = some (reG k (j0 + j) b)
  | [], j0, H2, h => by
    simp only [blksK] at h
    injection h with h
    subst h
    exact ⟨rfl, fun j id h => by simp at h⟩
  | id :: roots, j0, H2, h => by
    simp only [blksK, nth_eq] at h
    cases hb : H[id]? with
    | none => simp [hb] at h
    | some b =>
    simp only [hb] at h
    cases hr : blksK k H (j0 + 1) roots with
    | none => simp [hr] at h
    | some l =>
    simp only [hr] at h
    injection h with h; subst h
    obtain ⟨h1, h2⟩ := blksK_ok hr
    refine ⟨by simp [h1], fun j id' hj => ?_⟩
    cases j with
    | zero => simp at hj; subst hj; exact ⟨b, hb, rfl⟩
    | succ j =>
      obtain ⟨b', k1, k2⟩ := h2 j id' (by simpa using hj)
      exact ⟨b', k1, by rw [show j0 + (j + 1) = j0 + 1 + j by omega]; exact k2⟩

theorem reG_dead (j : Nat) (b : ABlk) : (reG k j b).dead = b.dead := by unfold reG; split <;> rfl
theorem reG_own (j : Nat) (b : ABlk) : (reG k j b).own = b.own := by unfold reG; split <;> rfl
theorem reG_es (j : Nat) (b : ABlk) : (reG k j b).es = b.es := by unfold reG; split <;> rfl
theorem reG_elems (j : Nat) (b : ABlk) : (reG k j b).elems = b.elems := by unfold reG; split <;> rfl
theorem reG_et (j : Nat) (b : ABlk) : (reG k j b).et = b.et := by unfold reG; split <;> rfl
theorem reG_g (j : Nat) (b : ABlk) : (reG k j b).g = gAt k j b.g := by unfold reG gAt; split <;> rfl

section
variable (hr : TOk k roots) (hH : HRel W ρ H F w) (hb : blksK k H 0 roots = some H2)
include hb

theorem tidy_at {j : Nat} {c : ABlk} (hc : H2[j]? = some c) : ∃ id b, roots[j]? = some id ∧ (roots[j]?).getD 0 = id ∧ H[id]? = some b ∧ c = reG k j b := by
  obtain ⟨hl, hat⟩ := blksK_ok hb
  have hj : j < roots.length := hl ▸ (List.getElem?_eq_some_iff.1 hc).1
  have hg := List.getElem?_eq_getElem hj
  obtain ⟨b, h1, h2⟩ := hat j _ hg
  refine ⟨_, b, hg, by simp [hg], h1, ?_⟩
  rw [Nat.zero_add] at h2
  exact Option.some.inj (hc.symm.trans h2)

include hr hH in
theorem tidy_hrel : HRel W (fun j => ρ ((roots[j]?).getD 0)) H2 F w := by
  refine ⟨fun j c hc hd => ?_, fun j j' c c' hc hc' hd hd' ho hne => ?_, hH.frz, hH.new⟩
  · obtain ⟨id, b, h1, h2, h3, h4⟩ := tidy_at hb hc
    subst h4
    rw [reG_dead] at hd
    obtain ⟨cc, t, fr, hB⟩ := hH.blk id b h3 hd
    simp only [h2]
    exact ⟨cc, t, fr, hB.obj, hB.room, by rw [reG_elems, reG_es]; exact hB.len, by rw [reG_elems, reG_es]; exact hB.rows, by rw [reG_elems, reG_es]; exact hB.cell, by rw [reG_own, reG_et]; exact hB.own, by rw [reG_own, reG_elems, reG_es]; exact hB.kept⟩
  · obtain ⟨id, b, h1, h2, h3, h4⟩ := tidy_at hb hc
    obtain ⟨id', b', h1', h2', h3', h4'⟩ := tidy_at hb hc'
    subst h4 h4'
    simp only [h2, h2']
    rw [reG_dead] at hd hd'
    rw [reG_own] at ho
    refine hH.apart id id' b b' h3 h3' hd hd' ho fun e => hne ?_
    subst e
    obtain ⟨a1, a2⟩ := List.getElem?_eq_some_iff.1 h1
    obtain ⟨b1, b2⟩ := List.getElem?_eq_some_iff.1 h1'
    exact (List.getElem_inj hr.nodup).1 (a2.trans b2.symm)

theorem tidy_cell {x z : AVal} {x' : Value} (h : TC k H roots x z) (hx : CRel ρ H F w x x') : CRel (fun j => ρ ((roots[j]?).getD 0)) H2 F w z x' := by
  obtain ⟨hl, hat⟩ := blksK_ok hb
  cases h with
  | unk x => exact .unk _
  | ptr id i c g j b hb1 hj =>
    obtain ⟨hb2, hd2, hg2⟩ := blkAt_some hb1
    obtain ⟨b', k1, k2⟩ := hat j id hj
    have : b' = b := Option.some.inj (k1.symm.trans hb2)
    subst this
    rw [Nat.zero_add] at k2
    obtain ⟨ad, b3, e, m1, m2, m3, m4⟩ := inv_ptr (.val (.cell hx))
    have : b3 = b' := Option.some.inj (m1.symm.trans hb2)
    subst this
    rw [e]
    refine .ptr j i c _ ad _ k2 (by rw [reG_dead]; exact hd2) (by rw [reG_g, hg2]; exact Nat.le_refl _) fun _ => ?_
    rw [m4 hg2, reG_es]
    simp [hj]
  | sl id off n g j b hb1 hj =>
    obtain ⟨hb2, hd2, hg2⟩ := blkAt_some hb1
    obtain ⟨b', k1, k2⟩ := hat j id hj
    have : b' = b := Option.some.inj (k1.symm.trans hb2)
    subst this
    rw [Nat.zero_add] at k2
    obtain ⟨ad, cap, b3, e, m1, m2, m3, m4, m5, m6, m7⟩ := inv_sl (.val (.cell hx))
    have : b3 = b' := Option.some.inj (m1.symm.trans hb2)
    subst this
    rw [e]
    refine .sl j off n _ ad cap _ k2 (by rw [reG_dead]; exact hd2) (by rw [reG_g, hg2]; exact Nat.le_refl _) m4 m5 m6 fun _ => ?_
    have := m7 hg2
    rw [reG_es, reG_elems]
    simpa [hj] using this
  | same x hs =>
    cases hx with
    | mem h => exact .mem h
    | v => exact .v _
    | ptr => exact hs.elim
    | sl => exact hs.elim
    | tptr cs a vs h1 h2 h3 h4 => exact .tptr cs a vs h1 h2 h3 h4
    | unk x' => exact .unk _

theorem tidy_val {x z : AVal} {x' : Value} (h : TV k H roots x z) (hx : VRel ρ H F w x x') : VRel (fun j => ρ ((roots[j]?).getD 0)) H2 F w z x' := by
  cases h with
  | cell hbare h =>
    cases hx with
    | cell hx => exact .cell (tidy_cell hb h hx)
    | _ => cases hbare
  | agg cs ds hl h =>
    obtain ⟨vs, e, hl2, h2⟩ := inv_agg (.val hx)
    rw [e]
    refine .agg ds vs (hl.trans hl2) fun i y y' hy hy' => ?_
    have hi : i < cs.length := hl ▸ (List.getElem?_eq_some_iff.1 hy).1
    exact tidy_cell hb (h i _ y (List.getElem?_eq_getElem hi) hy) (h2 i _ y' (List.getElem?_eq_getElem hi) hy')
  | fn f cs ds hl h =>
    obtain ⟨vs, e, hl2, h2⟩ := inv_fn (.val hx)
    rw [e]
    refine .fn f ds vs (hl.trans hl2) fun i y y' hy hy' => ?_
    have hi : i < cs.length := hl ▸ (List.getElem?_eq_some_iff.1 hy).1
    exact tidy_cell hb (h i _ y (List.getElem?_eq_getElem hi) hy) (h2 i _ y' (List.getElem?_eq_getElem hi) hy')
  | tup l =>
    cases hx with
    | cell hx => cases hx with
      | mem h => cases h

theorem tidy_w {x z : AVal} {x' : Value} (h : TW k H roots x z) (hx : WRel ρ H F w x x') : WRel (fun j => ρ ((roots[j]?).getD 0)) H2 F w z x' := by
  cases h with
  | val hnt h =>
    cases hx with
    | val hx => exact .val (tidy_val hb h hx)
    | tup cs vs hl h2 => exact absurd rfl (hnt cs)
  | tup cs ds hl h =>
    obtain ⟨vs, e, hl2, h2⟩ := inv_tup hx
    rw [e]
    refine .tup ds vs (hl.trans hl2) fun i y y' hy hy' => ?_
    have hi : i < cs.length := hl ▸ (List.getElem?_eq_some_iff.1 hy).1
    exact tidy_val hb (h i _ y (List.getElem?_eq_getElem hi) hy) (h2 i _ y' (List.getElem?_eq_getElem hi) hy')
end
end
end Go.Ev

