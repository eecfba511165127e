/- A call in the evaluator and in the model (own work). -/
import Derived.Test.YtblhkhjdkjjheaaEvJoin
set_option linter.unusedVariables false
set_option linter.unusedSimpArgs false
set_option linter.unnecessarySimpa false
set_option linter.unusedSectionVars false
namespace Go.Ev
open Go
section
variable {W : Nat → Prop} {ρ ρ1 : Rho} {H H2 blks out : List ABlk} {F F1 : Fz} {w w1 : World}

/-! ### the places of the ids -/
theorem idxFrom_some : ∀ (l : List Nat) (k id j : Nat), idxFrom id k l = some j → k ≤ j ∧ l[j - k]? = some id
  | [], k, id, j, h => by simp [idxFrom] at h
  | x :: l, k, id, j, h => by
    simp only [idxFrom] at h
    cases hb : Nat.beq x id with
    | true =>
      simp only [hb] at h
      injection h with h
      subst h
      have := Nat.eq_of_beq_eq_true hb
      simp [this]
    | false =>
      simp only [hb] at h
      obtain ⟨h1, h2⟩ := idxFrom_some l (k + 1) id j h
      refine ⟨by omega, ?_⟩
      rw [show j - k = (j - (k + 1)) + 1 by omega]
      simpa using h2
theorem idxFrom_none : ∀ (l : List Nat) (k id : Nat), idxFrom id k l = none → id ∉ l
  | [], k, id, _ => by simp
  | x :: l, k, id, h => by
    simp only [idxFrom] at h
    cases hb : Nat.beq x id with
    | true => simp [hb] at h
    | false =>
      simp only [hb] at h
      have h1 := idxFrom_none l (k + 1) id h
      have := Nat.ne_of_beq_eq_false hb
      simp [h1]
      exact fun h => this h.symm

noncomputable def posOf (roots : List Nat) (id : Nat) : Option Nat := idxFrom id 0 roots
theorem posOf_some {roots : List Nat} {id j : Nat} (h : posOf roots id = some j) : roots[j]? = some id := by
  have := (idxFrom_some roots 0 id j h).2
  simpa using this
theorem posOf_of {roots : List Nat} {id j : Nat} (hn : roots.Nodup) (h : roots[j]? = some id) : posOf roots id = some j := by
  cases hp : posOf roots id with
  | none => exact absurd (List.mem_of_getElem? h) (idxFrom_none roots 0 id hp)
  | some j' =>
    have h' := posOf_some hp
    have hj := (List.getElem?_eq_some_iff.1 h)
    have hj' := (List.getElem?_eq_some_iff.1 h')
    obtain ⟨a1, a2⟩ := hj
    obtain ⟨b1, b2⟩ := hj'
    have := (List.getElem_inj hn).1 (b2.trans a2.symm)
    rw [this]

theorem idxIn_ok {roots r : List Nat} {id j : Nat} (hn : roots.Nodup) (h : idxIn roots id = (j, r)) : r[j]? = some id ∧ r.Nodup ∧ (∀ (i : Nat) y, roots[i]? = some y → r[i]? = some y) ∧ ∀ y ∈ r, y ∈ roots ∨ y = id := by
  unfold idxIn at h
  split at h
  · rename_i j' hj
    injection h with e1 e2
    subst e1 e2
    exact ⟨posOf_some hj, hn, fun _ _ h => h, fun y hy => .inl hy⟩
  · rename_i hj
    have hnm := idxFrom_none roots 0 id hj
    rw [len_eq, app_eq] at h
    injection h with e1 e2
    subst e1 e2
    refine ⟨by simp, ?_, fun i y hy => ?_, fun y hy => ?_⟩
    · rw [List.nodup_append]
      exact ⟨hn, by simp, fun a ha b hb => by simp at hb; subst hb; exact fun e => hnm (e ▸ ha)⟩
    · rw [List.getElem?_append_left (List.getElem?_eq_some_iff.1 hy).1]; exact hy
    · simpa using hy

/-! ### the arguments -/
structure PrepOk (H : List ABlk) (p : Prep) : Prop where
  nodup : p.roots.Nodup
  live : ∀ id ∈ p.roots, ∃ b, H[id]? = some b ∧ b.dead = false
  lent : ∀ id ∈ p.lent, ∃ b, H[id]? = some b ∧ b.dead = false
def PrepLe (p q : Prep) : Prop := (∀ (i : Nat) y, p.roots[i]? = some y → q.roots[i]? = some y) ∧ ∀ y ∈ p.lent, y ∈ q.lent
theorem PrepLe.refl (p : Prep) : PrepLe p p := ⟨fun _ _ h => h, fun _ h => h⟩
theorem PrepLe.trans {p q r : Prep} (h : PrepLe p q) (k : PrepLe q r) : PrepLe p r := ⟨fun i y hy => k.1 i y (h.1 i y hy), fun y hy => k.2 y (h.2 y hy)⟩

inductive PrC (H : List ABlk) (p : Prep) : AVal → AVal → Prop
  | v (u : Value) : PrC H p (.v u) (.v u)
  | ptr (id i c g j : Nat) (b : ABlk) (hb : blkAt H id g = some b) (hj : p.roots[j]? = some id) : PrC H p (.ptr id i c g) (.ptr j i c 0)
  | tree (es n : Nat) (get : Nat → List AVal) : PrC H p (.tree es n get) (.tree es n get)
  | tptr (cs : List AVal) : PrC H p (.tptr cs) (.tptr cs)
  | lend (id off n g : Nat) (b : ABlk) (hb : blkAt H id g = some b) (hl : id ∈ p.lent) : PrC H p (.sl id off n g) (treeOf b off n)
  | fn (f : FuncId) : PrC H p (.fn f []) (.fn f [])
inductive PrV (H : List ABlk) (p : Prep) : AVal → AVal → Prop
  | cell {x z : AVal} (h : PrC H p x z) : PrV H p x z
  | agg (cs ds : List AVal) (hl : ds.length = cs.length) (h : ∀ (i : Nat) x z, cs[i]? = some x → ds[i]? = some z → PrC H p x z) : PrV H p (.agg cs) (.agg ds)
  | fn (f : FuncId) (cs ds : List AVal) (hl : ds.length = cs.length) (h : ∀ (i : Nat) x z, cs[i]? = some x → ds[i]? = some z → PrC H p x z) : PrV H p (.fn f cs) (.fn f ds)
  | sl (id n g j : Nat) (b : ABlk) (hb : blkAt H id g = some b) (hj : p.roots[j]? = some id) : PrV H p (.sl id 0 n g) (.sl j 0 n 0)

theorem PrC.le {p q : Prep} {x z : AVal} (h : PrC H p x z) (hle : PrepLe p q) : PrC H q x z := by
  cases h with
  | v u => exact .v u
  | ptr id i c g j b hb hj => exact .ptr id i c g j b hb (hle.1 _ _ hj)
  | tree es n get => exact .tree es n get
  | tptr cs => exact .tptr cs
  | lend id off n g b hb hl => exact .lend id off n g b hb (hle.2 _ hl)
  | fn f => exact .fn f
theorem PrV.le {p q : Prep} {x z : AVal} (h : PrV H p x z) (hle : PrepLe p q) : PrV H q x z := by
  cases h with
  | cell h => exact .cell (h.le hle)
  | agg cs ds hl h => exact .agg cs ds hl fun i x z hx hz => (h i x z hx hz).le hle
  | fn f cs ds hl h => exact .fn f cs ds hl fun i x z hx hz => (h i x z hx hz).le hle
  | sl id n g j b hb hj => exact .sl id n g j b hb (hle.1 _ _ hj)

theorem capArg_ok {p q : Prep} {x z : AVal} (hp : PrepOk H p) (h : capArg H p x = some (z, q)) : PrepOk H q ∧ PrepLe p q ∧ PrC H q x z := by
  unfold capArg at h
  split at h
  · injection h with h; injection h with e1 e2; subst e1 e2; exact ⟨hp, .refl p, .v _⟩
  · rename_i id i c g
    cases hb : blkAt H id g with
    | none => simp [hb] at h
    | some b =>
    obtain ⟨hb1, hb2, hb3⟩ := blkAt_some hb
    simp only [hb] at h
    cases hi : idxIn p.roots id with
    | mk j r =>
    simp only [hi] at h
    injection h with h; injection h with e1 e2; subst e1 e2
    obtain ⟨h1, h2, h3, h4⟩ := idxIn_ok hp.nodup hi
    refine ⟨⟨h2, fun y hy => ?_, hp.lent⟩, ⟨h3, fun y hy => hy⟩, .ptr id i c g j b hb h1⟩
    rcases h4 y hy with h | rfl
    · exact hp.live y h
    · exact ⟨b, hb1, hb2⟩
  · injection h with h; injection h with e1 e2; subst e1 e2; exact ⟨hp, .refl p, .tree _ _ _⟩
  · injection h with h; injection h with e1 e2; subst e1 e2; exact ⟨hp, .refl p, .tptr _⟩
  · rename_i id off n g
    cases hb : blkAt H id g with
    | none => simp [hb] at h
    | some b =>
    obtain ⟨hb1, hb2, hb3⟩ := blkAt_some hb
    simp only [hb] at h
    injection h with h; injection h with e1 e2; subst e1 e2
    refine ⟨⟨hp.nodup, hp.live, fun y hy => ?_⟩, ⟨fun _ _ h => h, fun y hy => by simp [hy]⟩, .lend id off n g b hb (by simp)⟩
    rcases List.mem_cons.1 hy with rfl | hy
    · exact ⟨b, hb1, hb2⟩
    · exact hp.lent y hy
  · injection h with h; injection h with e1 e2; subst e1 e2; exact ⟨hp, .refl p, .fn _⟩
  · cases h

theorem capArgs_ok : ∀ {xs zs : List AVal} {p q : Prep}, PrepOk H p → capArgs H p xs = some (zs, q) → PrepOk H q ∧ PrepLe p q ∧ zs.length = xs.length ∧ ∀ (i : Nat) x z, xs[i]? = some x → zs[i]? = some z → PrC H q x z
  | [], zs, p, q, hp, h => by
    simp only [capArgs] at h
    injection h with h; injection h with e1 e2; subst e1 e2
    exact ⟨hp, .refl p, rfl, fun i x z hx => by simp at hx⟩
  | x :: xs, zs, p, q, hp, h => by
    simp only [capArgs] at h
    cases h1 : capArg H p x with
    | none => simp [h1] at h
    | some yq =>
    obtain ⟨y, p1⟩ := yq
    simp only [h1] at h
    cases h2 : capArgs H p1 xs with
    | none => simp [h2] at h
    | some lq =>
    obtain ⟨l, p2⟩ := lq
    simp only [h2] at h
    injection h with h; injection h with e1 e2; subst e1 e2
    obtain ⟨a1, a2, a3⟩ := capArg_ok hp h1
    obtain ⟨b1, b2, b3, b4⟩ := capArgs_ok a1 h2
    refine ⟨b1, a2.trans b2, by simp [b3], fun i u z hu hz => ?_⟩
    cases i with
    | zero => simp at hu hz; subst hu hz; exact a3.le b2
    | succ i => exact b4 i u z (by simpa using hu) (by simpa using hz)

theorem prepArg_ok {p q : Prep} {own : Bool} {x z : AVal} (hp : PrepOk H p) (h : prepArg H own p x = some (z, q)) : PrepOk H q ∧ PrepLe p q ∧ PrV H q x z := by
  unfold prepArg at h
  split at h
  · injection h with h; injection h with e1 e2; subst e1 e2; exact ⟨hp, .refl p, .cell (.v _)⟩
  · rename_i id off n g
    split at h
    · cases hb : blkAt H id g with
      | none => simp [hb] at h
      | some b =>
      obtain ⟨hb1, hb2, hb3⟩ := blkAt_some hb
      simp only [hb] at h
      cases hc : Nat.beq off 0 with
      | false => simp [hc] at h
      | true =>
      simp only [hc] at h
      have h0 := Nat.eq_of_beq_eq_true hc
      subst h0
      cases hi : idxIn p.roots id with
      | mk j r =>
      simp only [hi] at h
      injection h with h; injection h with e1 e2; subst e1 e2
      obtain ⟨h1, h2, h3, h4⟩ := idxIn_ok hp.nodup hi
      refine ⟨⟨h2, fun y hy => ?_, hp.lent⟩, ⟨h3, fun y hy => hy⟩, .sl id n g j b hb h1⟩
      rcases h4 y hy with h | rfl
      · exact hp.live y h
      · exact ⟨b, hb1, hb2⟩
    · obtain ⟨a1, a2, a3⟩ := capArg_ok hp h
      exact ⟨a1, a2, .cell a3⟩
  · cases h1 : capArgs H p _ with
    | none => rw [h1] at h; cases h
    | some lq =>
    obtain ⟨l, p2⟩ := lq
    rw [h1] at h
    injection h with h; injection h with e1 e2; subst e1 e2
    obtain ⟨b1, b2, b3, b4⟩ := capArgs_ok hp h1
    exact ⟨b1, b2, .agg _ _ b3 b4⟩
  · cases h1 : capArgs H p _ with
    | none => rw [h1] at h; cases h
    | some lq =>
    obtain ⟨l, p2⟩ := lq
    rw [h1] at h
    injection h with h; injection h with e1 e2; subst e1 e2
    obtain ⟨b1, b2, b3, b4⟩ := capArgs_ok hp h1
    exact ⟨b1, b2, .fn _ _ _ b3 b4⟩
  · obtain ⟨a1, a2, a3⟩ := capArg_ok hp h
    exact ⟨a1, a2, .cell a3⟩

theorem prepArgs_ok {own : Nat → Bool} : ∀ {xs zs : List AVal} {p q : Prep} {k : Nat}, PrepOk H p → prepArgs H own p k xs = some (zs, q) → PrepOk H q ∧ PrepLe p q ∧ zs.length = xs.length ∧ ∀ (i : Nat) x z, xs[i]? = some x → zs[i]? = some z → PrV H q x z
  | [], zs, p, q, k, hp, h => by
    simp only [prepArgs] at h
    injection h with h; injection h with e1 e2; subst e1 e2
    exact ⟨hp, .refl p, rfl, fun i x z hx => by simp at hx⟩
  | x :: xs, zs, p, q, k, hp, h => by
    simp only [prepArgs] at h
    cases h1 : prepArg H (own k) p x with
    | none => simp [h1] at h
    | some yq =>
    obtain ⟨y, p1⟩ := yq
    simp only [h1] at h
    cases h2 : prepArgs H own p1 (k + 1) xs with
    | none => simp [h2] at h
    | some lq =>
    obtain ⟨l, p2⟩ := lq
    simp only [h2] at h
    injection h with h; injection h with e1 e2; subst e1 e2
    obtain ⟨a1, a2, a3⟩ := prepArg_ok hp h1
    obtain ⟨b1, b2, b3, b4⟩ := prepArgs_ok a1 h2
    refine ⟨b1, a2.trans b2, by simp [b3], fun i u z hu hz => ?_⟩
    cases i with
    | zero => simp at hu hz; subst hu hz; exact a3.le b2
    | succ i => exact b4 i u z (by simpa using hu) (by simpa using hz)

theorem blksAt_ok : ∀ {roots : List Nat} {blks : List ABlk}, blksAt H roots = some blks → blks.length = roots.length ∧ ∀ (j : Nat) id, roots[j]? = some id → ∃ b, H[id]? = some b ∧ blks[j]? = some { b with g := 0 }
  | [], blks, h => by
    simp only [blksAt] at h
    injection h with h; subst h
    exact ⟨rfl, fun j id h => by simp at h⟩
  | id :: roots, blks, h => by
    simp only [blksAt, nth_eq] at h
    cases hb : H[id]? with
    | none => simp [hb] at h
    | some b =>
    simp only [hb] at h
    cases hr : blksAt H roots with
    | none => simp [hr] at h
    | some l =>
    simp only [hr] at h
    injection h with h; subst h
    obtain ⟨h1, h2⟩ := blksAt_ok hr
    refine ⟨by simp [h1], fun j id' hj => ?_⟩
    cases j with
    | zero => simp at hj; subst hj; exact ⟨b, hb, rfl⟩
    | succ j => exact h2 j id' (by simpa using hj)

/-- the arguments, as the callee has them -/
theorem PrC.rel {p : Prep} {x z : AVal} {x' : Value} (hH : HRel W ρ H F w) (hbl : blksAt H p.roots = some blks) (inv : Nat → Nat) (hinv : ∀ (j : Nat) id, p.roots[j]? = some id → inv j = id)
    (h : PrC H p x z) (hx : CRel ρ H F w x x') : CRel (fun j => ρ (inv j)) blks (CallF ρ H F (· ∈ p.lent)) w z x' := by
  obtain ⟨hl, hat⟩ := blksAt_ok hbl
  have hmore : ∀ b o, F b o → CallF ρ H F (· ∈ p.lent) b o := fun b o h => .inl h
  cases h with
  | v u =>
    have := inv_v (.val (.cell hx))
    subst this
    exact .v _
  | ptr id i c g j b hb hj =>
    obtain ⟨ad, b', e, hb1, hd1, hg1, hh⟩ := inv_ptr (.val (.cell hx))
    obtain ⟨hb2, hd2, hg2⟩ := blkAt_some hb
    have : b' = b := Option.some.inj (hb1.symm.trans hb2)
    subst this
    obtain ⟨b3, hb3, hb4⟩ := hat j id hj
    have : b3 = b' := Option.some.inj (hb3.symm.trans hb1)
    subst this
    rw [e]
    refine .ptr j i c 0 ad _ hb4 hd1 (Nat.zero_le _) fun _ => ?_
    rw [hh hg2]
    simp only [hinv j id hj]
  | tree es n get =>
    have ht := inv_tree (.val (.cell hx))
    exact .mem (ht.adv hmore fun _ _ _ => rfl)
  | tptr cs =>
    obtain ⟨ad, vs, e, hs, hF, hw, hr⟩ := inv_tptr (.val (.cell hx))
    rw [e]
    exact .tptr cs ad vs hs (fun c hc => hmore _ _ (hF c hc)) hw fun c hc => (hr c hc).adv hmore fun _ _ _ => rfl
  | lend id off n g b hb hl =>
    obtain ⟨hb2, hd2, hg2⟩ := blkAt_some hb
    refine .mem (treeOf_ok hH hb (.val (.cell hx)) hmore fun o ho => ?_)
    obtain ⟨cc, t, fr, hB⟩ := hH.blk id b hb2 hd2
    cases hown : b.own with
    | false => exact .inl (hB.kept hown o ho)
    | true => exact .inr ⟨id, b, hl, hb2, hown, rfl, by omega, by omega⟩
  | fn f =>
    cases hx with
    | mem h => cases h; exact .mem (.fn f)
theorem PrV.rel {p : Prep} {x z : AVal} {x' : Value} (hH : HRel W ρ H F w) (hbl : blksAt H p.roots = some blks) (inv : Nat → Nat) (hinv : ∀ (j : Nat) id, p.roots[j]? = some id → inv j = id)
    (h : PrV H p x z) (hx : WRel ρ H F w x x') : WRel (fun j => ρ (inv j)) blks (CallF ρ H F (· ∈ p.lent)) w z x' := by
  obtain ⟨hl, hat⟩ := blksAt_ok hbl
  cases h with
  | cell h =>
    have hc : CRel ρ H F w x x' ∨ ∃ f, x = .fn f [] ∧ z = .fn f [] := by
      cases hx with
      | val hx => cases hx with
        | cell hx => exact .inl hx
        | agg => cases h
        | fn f caps vs hl h' => cases h; exact .inr ⟨_, rfl, rfl⟩
      | tup => cases h
    rcases hc with hc | ⟨f, rfl, rfl⟩
    · exact .val (.cell (h.rel hH hbl inv hinv hc))
    · obtain ⟨vs, e, hl, _⟩ := inv_fn hx
      have : vs = #[] := by simpa using hl.symm
      rw [e, this]
      exact .val (.cell (.mem (.fn f)))
  | agg cs ds hl2 h =>
    obtain ⟨vs, e, hl3, h3⟩ := inv_agg hx
    rw [e]
    exact .val (.agg ds vs (hl2.trans hl3) fun i y y' hy hy' => by
      have hi : i < cs.length := hl2 ▸ (List.getElem?_eq_some_iff.1 hy).1
      exact (h i _ y (List.getElem?_eq_getElem hi) hy).rel hH hbl inv hinv (h3 i _ y' (List.getElem?_eq_getElem hi) hy'))
  | fn f cs ds hl2 h =>
    obtain ⟨vs, e, hl3, h3⟩ := inv_fn hx
    rw [e]
    exact .val (.fn f ds vs (hl2.trans hl3) fun i y y' hy hy' => by
      have hi : i < cs.length := hl2 ▸ (List.getElem?_eq_some_iff.1 hy).1
      exact (h i _ y (List.getElem?_eq_getElem hi) hy).rel hH hbl inv hinv (h3 i _ y' (List.getElem?_eq_getElem hi) hy'))
  | sl id n g j b hb hj =>
    obtain ⟨ad, cap, b', e, hb1, hd1, hg1, hn1, hs1, hm1, hh⟩ := inv_sl hx
    obtain ⟨hb2, hd2, hg2⟩ := blkAt_some hb
    have : b' = b := Option.some.inj (hb1.symm.trans hb2)
    subst this
    obtain ⟨b3, hb3, hb4⟩ := hat j id hj
    have : b3 = b' := Option.some.inj (hb3.symm.trans hb1)
    subst this
    rw [e]
    refine .val (.cell (.sl j 0 n 0 ad cap _ hb4 hd1 (Nat.zero_le _) hn1 hs1 hm1 fun _ => ?_))
    have := hh hg2
    simpa only [hinv j id hj] using this
end
end Go.Ev
namespace Go.Ev
open Go
section
variable {W : Nat → Prop} {ρ ρ1 : Rho} {H H2 blks out : List ABlk} {F F1 : Fz} {w w1 : World}

theorem modAt_eq (H : List ABlk) (id : Nat) (f : ABlk → ABlk) (b : ABlk) (hb : H[id]? = some b) : modAt H id f = H.set id (f b) := by
  simp [modAt, nth_eq, hb, setAt_eq]
theorem modAt_len (H : List ABlk) (id : Nat) (f : ABlk → ABlk) : (modAt H id f).length = H.length := by
  unfold modAt
  split
  · rw [setAt_eq]; simp
  · rfl

theorem putBack_ok : ∀ {roots : List Nat} {H out H2 : List ABlk}, roots.Nodup → (∀ id ∈ roots, id < H.length) → putBack H roots out = some H2 →
    roots.length ≤ out.length ∧ H2.length = H.length + (out.length - roots.length) ∧
    (∀ (j : Nat) id, roots[j]? = some id → ∃ b c, H[id]? = some b ∧ out[j]? = some c ∧ H2[id]? = some { c with g := b.g + c.g }) ∧
    (∀ id, id < H.length → id ∉ roots → H2[id]? = H[id]?) ∧ ∀ i, H2[H.length + i]? = out[roots.length + i]?
  | [], H, out, H2, _, _, h => by
    have h2 : H2 = H ++ out := by
      cases out with
      | nil => simp [putBack] at h; simp [h]
      | cons c out => simp [putBack, app_eq] at h; exact h.symm
    subst h2
    refine ⟨by simp, by simp, fun j id h => by simp at h, fun id hid _ => List.getElem?_append_left hid, fun i => ?_⟩
    rw [List.getElem?_append_right (by omega)]
    simp
  | id :: roots, H, [], H2, _, _, h => by simp [putBack] at h
  | id :: roots, H, c :: out, H2, hn, hlt, h => by
    simp only [putBack] at h
    have hid := hlt id (by simp)
    have hb := List.getElem?_eq_getElem hid
    rw [modAt_eq H id _ _ hb] at h
    obtain ⟨hn1, hn2⟩ := List.nodup_cons.1 hn
    obtain ⟨h1, h2, h3, h4, h5⟩ := putBack_ok hn2 (fun id' h' => by simp; exact hlt id' (by simp [h'])) h
    simp only [List.length_set] at h2 h4 h5
    refine ⟨by simp; omega, by simp only [List.length_cons]; omega, fun j id' hj => ?_, fun id' hid' hni => ?_, fun i => ?_⟩
    · cases j with
      | zero =>
        simp at hj
        subst hj
        refine ⟨_, c, hb, rfl, ?_⟩
        rw [h4 id hid hn1, List.getElem?_set_self hid]
      | succ j =>
        obtain ⟨b', c', g1, g2, g3⟩ := h3 j id' (by simpa using hj)
        have hne : id ≠ id' := fun e => by subst e; exact hn1 (List.mem_of_getElem? (by simpa using hj))
        rw [List.getElem?_set_ne hne] at g1
        exact ⟨b', c', g1, by simpa using g2, g3⟩
    · have hne : id ≠ id' := fun e => hni (by simp [e])
      rw [h4 id' hid' (fun h => hni (by simp [h])), List.getElem?_set_ne hne]
    · rw [h5 i]
      simp only [List.length_cons]
      rw [show roots.length + 1 + i = (roots.length + i) + 1 by omega]
      simp

theorem settle_cons (id : Nat) (lent : List Nat) (held : Bool) (H : List ABlk) : settle (id :: lent) held H = if held then disown (settle lent held H) id else settle lent held H := by
  have e : settle (id :: lent) held H = modAt (settle lent held H) id fun b => { b with own := Bool.rec b.own false held } := rfl
  rw [e]
  cases held with
  | true => rfl
  | false =>
    show modAt (settle lent false H) id (fun b => b) = settle lent false H
    unfold modAt
    rw [nth_eq]
    cases h : (settle lent false H)[id]? with
    | none => rfl
    | some b =>
      show setAt (settle lent false H) id b = _
      rw [setAt_eq]
      apply List.ext_getElem?
      intro i
      rw [List.getElem?_set]
      split
      · next hi =>
        subst hi
        rw [h]
        split
        · rfl
        · next hn => rw [List.getElem?_eq_none (by omega)] at h; cases h
      · rfl
theorem settle_ok (held : Bool) (H : List ABlk) : ∀ (lent : List Nat), (settle lent held H).length = H.length ∧
    ∀ (id : Nat) b2, (settle lent held H)[id]? = some b2 → ∃ b, H[id]? = some b ∧ b2 = { b with own := b2.own } ∧ (b2.own = b.own ∨ (held = true ∧ id ∈ lent ∧ b2.own = false)) ∧ (held = true → id ∈ lent → b2.own = false)
  | [] => ⟨rfl, fun id b2 h => ⟨b2, h, rfl, .inl rfl, fun _ h => by simp at h⟩⟩
  | l :: lent => by
    obtain ⟨h1, h2⟩ := settle_ok held H lent
    rw [settle_cons]
    cases held with
    | false =>
      simp only [Bool.false_eq_true, if_false]
      refine ⟨h1, fun id b2 hb => ?_⟩
      obtain ⟨b, g1, g2, g3, g4⟩ := h2 id b2 hb
      refine ⟨b, g1, g2, ?_, fun h => by cases h⟩
      rcases g3 with g3 | ⟨g3, _⟩
      · exact .inl g3
      · cases g3
    | true =>
      simp only [if_true]
      refine ⟨by simp [disown, modAt_len, h1], fun id b2 hb => ?_⟩
      by_cases hl : l = id
      · subst hl
        have hlt : l < (settle lent true H).length := by
          have := (List.getElem?_eq_some_iff.1 hb).1
          simpa [disown, modAt_len] using this
        have hg := List.getElem?_eq_getElem hlt
        obtain ⟨b, g1, g2, g3, g4⟩ := h2 l _ hg
        unfold disown at hb
        rw [modAt_eq _ l _ _ hg, List.getElem?_set_self hlt] at hb
        injection hb with hb
        subst hb
        exact ⟨b, g1, by rw [g2], .inr ⟨trivial, List.mem_cons_self, rfl⟩, fun _ _ => rfl⟩
      · have hb' : (settle lent true H)[id]? = some b2 := by
          unfold disown modAt at hb
          split at hb
          · rwa [setAt_eq, List.getElem?_set_ne hl] at hb
          · exact hb
        obtain ⟨b, g1, g2, g3, g4⟩ := h2 id b2 hb'
        refine ⟨b, g1, g2, ?_, fun h hm => ?_⟩
        · rcases g3 with g3 | ⟨g3, g5, g6⟩
          · exact .inl g3
          · exact .inr ⟨trivial, List.mem_cons_of_mem _ g5, g6⟩
        · rcases List.mem_cons.1 hm with h' | h'
          · exact absurd h'.symm hl
          · exact g4 rfl h'

theorem apartN_ok : ∀ {l r : List Nat}, apartN l r = true → ∀ x ∈ l, x ∉ r
  | [], _, _, x, hx => by simp at hx
  | y :: l, r, h, x, hx => by
    have h' : (Bool.rec (apartN l r) false (memN y r) : Bool) = true := h
    cases hm : memN y r with
    | true => rw [hm] at h'; cases h'
    | false =>
      rw [hm] at h'
      rcases List.mem_cons.1 hx with rfl | hx
      · rw [memN_eq] at hm; simpa using hm
      · exact apartN_ok h' x hx

/-- the shape, of what the evaluator does -/
theorem shape_of {p : Prep} {held : Bool} (hp : PrepOk H p) (hbl : blksAt H p.roots = some blks) (hap : apartN p.lent p.roots = true) (hpb : putBack H p.roots out = some H2) :
    Shape H blks out (settle p.lent held H2) (posOf p.roots) (· ∈ p.lent) (held = true) := by
  obtain ⟨hl, hat⟩ := blksAt_ok hbl
  have hlt : ∀ id ∈ p.roots, id < H.length := fun id hid => by
    obtain ⟨b, hb, _⟩ := hp.live id hid
    exact (List.getElem?_eq_some_iff.1 hb).1
  obtain ⟨g1, g2, g3, g4, g5⟩ := putBack_ok hp.nodup hlt hpb
  obtain ⟨s1, s2⟩ := settle_ok held H2 p.lent
  have hnone : ∀ id, posOf p.roots id = none → id ∉ p.roots := fun id h => idxFrom_none _ _ _ h
  have hnot : ∀ id, id ∈ p.lent → posOf p.roots id = none := fun id hid => by
    cases h : posOf p.roots id with
    | none => rfl
    | some j => exact absurd (List.mem_of_getElem? (posOf_some h)) (apartN_ok hap id hid)
  refine ⟨fun id j h => ?_, fun id id' j h h' => ?_, fun j hj => ?_, fun id j b h hb => ?_, fun id h => ⟨hnot id h, hp.lent id h⟩, by omega, fun id b2 hid hn hb2 => ?_, fun id b2 hh hm hb2 => ?_, fun id j b2 h hb2 => ?_, fun id b2 hge hb2 => ?_, by rw [s1, g2, hl]⟩
  · have h1 := posOf_some h
    exact ⟨hlt id (List.mem_of_getElem? h1), by rw [hl]; exact (List.getElem?_eq_some_iff.1 h1).1⟩
  · have h1 := posOf_some h
    have h2 := posOf_some h'
    exact Option.some.inj (h1.symm.trans h2)
  · rw [hl] at hj
    exact ⟨p.roots[j], posOf_of hp.nodup (List.getElem?_eq_getElem hj)⟩
  · have h1 := posOf_some h
    obtain ⟨b', hb', hb2⟩ := hat j id h1
    have : b' = b := Option.some.inj (hb'.symm.trans hb)
    subst this
    obtain ⟨b3, hb3, hd3⟩ := hp.live id (List.mem_of_getElem? h1)
    have : b3 = b' := Option.some.inj (hb3.symm.trans hb)
    subst this
    exact ⟨hb2, hd3⟩
  · obtain ⟨b, k1, k2, k3, _⟩ := s2 id b2 hb2
    rw [g4 id hid (hnone id hn)] at k1
    refine ⟨b, k1, k2, ?_⟩
    rcases k3 with k3 | ⟨a1, a2, a3⟩
    · exact .inl k3
    · exact .inr ⟨a1, a2, a3⟩
  · obtain ⟨b, k1, k2, k3, k4⟩ := s2 id b2 hb2
    exact k4 hh hm
  · have h1 := posOf_some h
    obtain ⟨b, c, k1, k2, k3⟩ := g3 j id h1
    obtain ⟨b', m1, m2, m3, _⟩ := s2 id b2 hb2
    have : b' = { c with g := b.g + c.g } := Option.some.inj (m1.symm.trans k3)
    subst this
    refine ⟨b, c, k1, k2, ?_⟩
    rcases m3 with m3 | ⟨_, m4, _⟩
    · rw [m2, m3]
    · exact absurd (hnot id m4) (by rw [h]; simp)
  · obtain ⟨b', m1, m2, m3, _⟩ := s2 id b2 hb2
    have e : id = H.length + (id - H.length) := by omega
    rw [e, g5] at m1
    rw [hl]
    rcases m3 with m3 | ⟨_, m4, _⟩
    · have : b2 = b' := by rw [m2, m3]
      rw [this]; exact m1
    · obtain ⟨b3, hb3, _⟩ := hp.lent id m4
      have := (List.getElem?_eq_some_iff.1 hb3).1
      omega

def isBare : AVal → Bool
  | .agg _ | .tup _ | .fn _ _ => false
  | _ => true
/-- an id of the callee's, in the caller -/
theorem backId_ok {p : Prep} {held : Bool} (hp : PrepOk H p) (hbl : blksAt H p.roots = some blks) (hap : apartN p.lent p.roots = true) (hpb : putBack H p.roots out = some H2) {j g id g' : Nat} {c : ABlk} (hc : out[j]? = some c)
    (hid : backId H p.roots j g = (id, g')) : ∃ b2, (settle p.lent held H2)[id]? = some b2 ∧ (∃ n, b2 = { c with g := n + c.g } ∧ g' = n + g) ∧ BackRho ρ ρ1 H.length blks.length (posOf p.roots) id = ρ1 j := by
  have hS := shape_of (held := held) hp hbl hap hpb
  obtain ⟨hl, hat⟩ := blksAt_ok hbl
  unfold backId at hid
  rw [nth_eq] at hid
  cases hr : p.roots[j]? with
  | some id0 =>
    obtain ⟨b, hb, _⟩ := hat j id0 hr
    simp only [hr, nth_eq, hb] at hid
    injection hid with e1 e2
    subst e1 e2
    have hpos := posOf_of hp.nodup hr
    have hlt2 : id0 < (settle p.lent held H2).length := by have := hS.len; have := (hS.posLt id0 j hpos).1; omega
    obtain ⟨b', c', k1, k2, k3⟩ := hS.root id0 j _ hpos (List.getElem?_eq_getElem hlt2)
    have : b' = b := Option.some.inj (k1.symm.trans hb)
    subst this
    have : c' = c := Option.some.inj (k2.symm.trans hc)
    subst this
    exact ⟨_, List.getElem?_eq_getElem hlt2, ⟨b'.g, k3, rfl⟩, by simp [BackRho, hpos]⟩
  | none =>
    simp only [hr, len_eq] at hid
    injection hid with e1 e2
    subst e1 e2
    have hjl := (List.getElem?_eq_some_iff.1 hc).1
    have hjge : p.roots.length ≤ j := by
      rcases Nat.lt_or_ge j p.roots.length with h | h
      · rw [List.getElem?_eq_getElem h] at hr; cases hr
      · exact h
    have hlt2 : H.length + (j - p.roots.length) < (settle p.lent held H2).length := by have := hS.len; omega
    have hn := hS.new _ _ (by omega) (List.getElem?_eq_getElem hlt2)
    have e : blks.length + (H.length + (j - p.roots.length) - H.length) = j := by omega
    rw [e] at hn
    have hbc := Option.some.inj (hn.symm.trans hc)
    refine ⟨_, List.getElem?_eq_getElem hlt2, ⟨0, by rw [hbc]; simp, by simp⟩, ?_⟩
    have hnn : posOf p.roots (H.length + (j - p.roots.length)) = none := by
      cases h : posOf p.roots (H.length + (j - p.roots.length)) with
      | none => rfl
      | some j' => have := (hS.posLt _ _ h).1; omega
    have hnl : ¬ (H.length + (j - p.roots.length) < H.length) := by omega
    simp only [BackRho, hnn, if_neg hnl]
    rw [e]

section
variable {p : Prep} {held : Bool} (hp : PrepOk H p) (hbl : blksAt H p.roots = some blks) (hap : apartN p.lent p.roots = true) (hpb : putBack H p.roots out = some H2)
include hp hbl hap hpb

theorem back_cell {x : AVal} {x' : Value} (hx : CRel ρ1 out F1 w1 x x') (hh : held = true ∨ holds1 x = false) :
    CRel (BackRho ρ ρ1 H.length blks.length (posOf p.roots)) (settle p.lent held H2) (BackF ρ H F F1 (· ∈ p.lent) (held = true)) w1 (backC H p.roots x) x' := by
  have hm : ∀ {y y'}, MRel F1 w1 y y' → (held = true ∨ holds1 y = false) → MRel (BackF ρ H F F1 (· ∈ p.lent) (held = true)) w1 y y' := fun {y y'} h hh => by
    rcases hh with hh | hh
    · exact h.adv (fun b o h => ⟨h, .inl hh⟩) (fun _ _ _ => rfl)
    · exact h.bare hh
  cases hx with
  | mem h =>
    cases h with
    | v u h1 => exact .v _
    | fn f => exact .mem (.fn f)
    | tree es n get ad cap cs hs hcap hes hF hw hr =>
      have hh' : held = true := hh.resolve_right (by simp [holds1])
      exact .mem (hm (.tree es n get ad cap cs hs hcap hes hF hw hr) (.inl hh'))
    | nil es get => exact .mem (.nil es get)
  | v u => exact .v _
  | ptr id i c g ad b hb hd hg h =>
    simp only [backC]
    cases hid : backId H p.roots id g with
    | mk id2 g2 =>
    obtain ⟨b2, k1, ⟨n, k2, k3⟩, k4⟩ := backId_ok (ρ := ρ) (ρ1 := ρ1) (held := held) hp hbl hap hpb hb hid
    refine .ptr id2 i c g2 ad b2 k1 (by rw [k2]; exact hd) (by rw [k2, k3]; simp; exact hg) fun hge => ?_
    rw [k4, h (by rw [k2, k3] at hge; simp at hge; omega), k2]
  | sl id off n g ad cap b hb hd hg hn hs hcm h =>
    simp only [backC]
    cases hid : backId H p.roots id g with
    | mk id2 g2 =>
    obtain ⟨b2, k1, ⟨m, k2, k3⟩, k4⟩ := backId_ok (ρ := ρ) (ρ1 := ρ1) (held := held) hp hbl hap hpb hb hid
    refine .sl id2 off n g2 ad cap b2 k1 (by rw [k2]; exact hd) (by rw [k2, k3]; simp; exact hg) hn hs hcm fun hge => ?_
    have := h (by rw [k2, k3] at hge; simp at hge; omega)
    rw [k4, k2]
    exact this
  | tptr cs ad vs hs hF hw hr =>
    have hh' : held = true := hh.resolve_right (by simp [holds1])
    exact .tptr cs ad vs hs (fun c hc => ⟨hF c hc, .inl hh'⟩) hw fun c hc => hm (hr c hc) (.inl hh')
  | unk x' => exact .unk _

theorem back_v {x : AVal} {x' : Value} (hx : VRel ρ1 out F1 w1 x x') (hh : held = true ∨ holdsTree x = false) :
    VRel (BackRho ρ ρ1 H.length blks.length (posOf p.roots)) (settle p.lent held H2) (BackF ρ H F F1 (· ∈ p.lent) (held = true)) w1 (backVal1 H p.roots x) x' := by
  have hbar : ∀ {y : AVal}, isBare y = true → backVal1 H p.roots y = backC H p.roots y ∧ holdsTree y = holds1 y := fun {y} h => by
    cases y with
    | agg => cases h
    | tup => cases h
    | fn => cases h
    | _ => exact ⟨rfl, rfl⟩
  cases hx with
  | cell h =>
    by_cases hb : isBare x = true
    · obtain ⟨e1, e2⟩ := hbar hb
      rw [e1]
      exact .cell (back_cell hp hbl hap hpb h (e2 ▸ hh))
    · cases h with
      | mem h => cases h with
        | fn f => exact .cell (.mem (.fn f))
        | _ => exact absurd rfl hb
      | _ => exact absurd rfl hb
  | agg cs vs hl h =>
    show VRel _ _ _ _ (.agg (mapL (backC H p.roots) cs)) _
    rw [mapL_eq]
    refine .agg _ vs (by simpa using hl) fun i x x' hx hx' => ?_
    simp only [List.getElem?_map, Option.map_eq_some_iff] at hx
    obtain ⟨y, hy, rfl⟩ := hx
    refine back_cell hp hbl hap hpb (h i y x' hy hx') (hh.imp id fun hh => ?_)
    have hh' : cs.any holds1 = false := hh
    rw [List.any_eq_false] at hh'
    simpa using hh' y (List.mem_of_getElem? hy)
  | fn f caps vs hl h =>
    show VRel _ _ _ _ (.fn f (mapL (backC H p.roots) caps)) _
    rw [mapL_eq]
    refine .fn f _ vs (by simpa using hl) fun i x x' hx hx' => ?_
    simp only [List.getElem?_map, Option.map_eq_some_iff] at hx
    obtain ⟨y, hy, rfl⟩ := hx
    have hc := h i y x' hy hx'
    refine back_cell hp hbl hap hpb hc (hh.imp id fun hh => ?_)
    have hh' : caps.any holdsC = false := hh
    rw [List.any_eq_false] at hh'
    have := hh' y (List.mem_of_getElem? hy)
    cases y with
    | fn f l => cases hc with
      | mem h => cases h; rfl
    | tree => exact absurd rfl this
    | tptr => exact absurd rfl this
    | _ => rfl

theorem back_w {x : AVal} {x' : Value} (hx : WRel ρ1 out F1 w1 x x') (hh : held = true ∨ holdsTree x = false) :
    WRel (BackRho ρ ρ1 H.length blks.length (posOf p.roots)) (settle p.lent held H2) (BackF ρ H F F1 (· ∈ p.lent) (held = true)) w1 (backVal H p.roots x) x' := by
  cases hx with
  | val h =>
    have e : backVal H p.roots x = backVal1 H p.roots x ∨ ∃ vs, x = .tup vs := by
      cases x with
      | tup vs => exact .inr ⟨vs, rfl⟩
      | _ => exact .inl rfl
    rcases e with e | ⟨vs, rfl⟩
    · rw [e]
      exact .val (back_v hp hbl hap hpb h hh)
    · cases h with
      | cell h => cases h with
        | mem h => cases h
  | tup xs vs hl h =>
    show WRel _ _ _ _ (.tup (mapL (backVal1 H p.roots) xs)) _
    rw [mapL_eq]
    refine .tup _ vs (by simpa using hl) fun i x x' hx hx' => ?_
    simp only [List.getElem?_map, Option.map_eq_some_iff] at hx
    obtain ⟨y, hy, rfl⟩ := hx
    refine back_v hp hbl hap hpb (h i y x' hy hx') (hh.imp id fun hh => ?_)
    have hh' : xs.any holdsV = false := hh
    rw [List.any_eq_false] at hh'
    have := hh' y (List.mem_of_getElem? hy)
    have e : holdsTree y = holdsV y ∨ ∃ l, y = .tup l := by
      cases y with
      | tup l => exact .inr ⟨l, rfl⟩
      | _ => exact .inl rfl
    rcases e with e | ⟨l, rfl⟩
    · rw [e]; simpa using this
    · cases h i _ x' hy hx' with
      | cell h => cases h with
        | mem h => cases h
end
end
end Go.Ev
namespace Go.Ev
open Go
section
variable {W : Nat → Prop} {ρ : Rho} {H H' : List ABlk} {F : Fz} {w : World} {E : Env}

theorem call_gives (hH : HRel W ρ H F w) (hG : GOk E F w) {f : FuncId} (hcall : FnOk E.P E.G f (E.call f)) {args : List AVal} {args' : List Value} {x : AVal} (hlen : args.length = args'.length)
    (hargs : ∀ (i : Nat) x x', args[i]? = some x → args'[i]? = some x' → WRel ρ H F w x x') (he : (callA E f args H).run = some (x, H')) :
    Callable E.P f ∧ Calls E.P f args'.toArray w fun e w' => ∃ x', e = .returned x' ∧ Post W ρ H F w x H' x' w' := by
  unfold callA at he
  cases hpr : prepArgs H (E.own f) { roots := [], lent := [] } 0 args with
  | none => rw [hpr] at he; cases he
  | some q =>
  obtain ⟨args2, p⟩ := q
  rw [hpr] at he
  simp only at he
  obtain ⟨hp, _, hl2, hPr⟩ := prepArgs_ok (H := H) (p := { roots := [], lent := [] }) ⟨List.nodup_nil, fun id h => by simp at h, fun id h => by simp at h⟩ hpr
  cases hbl : blksAt H p.roots with
  | none => rw [hbl] at he; cases he
  | some blks =>
  cases hap : apartN p.lent p.roots with
  | false => rw [hbl, hap] at he; cases he
  | true =>
  rw [hbl, hap] at he
  simp only at he
  obtain ⟨⟨r, out⟩, hc, he⟩ := DT.run_bind_some he
  simp only at he
  cases hpb : putBack H p.roots out with
  | none => rw [hpb] at he; cases he
  | some H2 =>
  rw [hpb] at he
  simp only at he
  generalize hheld : (holdsTree r || out.any blkHolds) = held at he
  have he' : some (backVal H p.roots r, settle p.lent held H2) = some (x, H') := he
  injection he' with he'; injection he' with e1 e2
  have hS := shape_of (held := held) hp hbl hap hpb
  let inv : Nat → Nat := fun j => (p.roots[j]?).getD 0
  have hinv1 : ∀ (j : Nat) id, p.roots[j]? = some id → inv j = id := fun j id h => by simp [inv, h]
  obtain ⟨hbll, _⟩ := blksAt_ok hbl
  have hinv : ∀ j, j < blks.length → posOf p.roots (inv j) = some j := fun j hj => by
    rw [hbll] at hj
    have h := List.getElem?_eq_getElem hj
    rw [hinv1 j _ h]
    exact posOf_of hp.nodup h
  have hst := hS.start hH inv hinv
  have hargs2 : ∀ (i : Nat) y y', args2[i]? = some y → args'[i]? = some y' → WRel (fun j => ρ (inv j)) blks (CallF ρ H F (· ∈ p.lent)) w y y' := fun i y y' hy hy' => by
    have hi : i < args.length := hl2 ▸ (List.getElem?_eq_some_iff.1 hy).1
    have hx := List.getElem?_eq_getElem hi
    exact (hPr i _ y hx hy).rel hH hbl inv hinv1 (hargs i _ y' hx hy')
  obtain ⟨hca, hcalls⟩ := hcall args2 blks r out hc _ _ _ w args' hst (hl2.trans hlen) hargs2 fun g c y hy => by
    obtain ⟨h1, h2, h3⟩ := hG g c y hy
    exact ⟨h1, .inl h2, h3⟩
  refine ⟨hca, hcalls.mono fun e w' ⟨r', her, ρ1, F1, hA, h1, hr⟩ => ?_⟩
  have hheld' : held = true ∨ (holdsTree r = false ∧ ∀ b ∈ out, blkHolds b = false) := by
    cases held with
    | true => exact .inl rfl
    | false =>
      rw [Bool.or_eq_false_iff] at hheld
      refine .inr ⟨hheld.1, fun b hb => ?_⟩
      have := List.any_eq_false.1 hheld.2 b hb
      simpa using this
  have hbare : held = true ∨ ∀ (i : Nat) c (j : Nat) rr (k : Nat) y, out[i]? = some c → c.elems[j]? = some rr → rr[k]? = some y → holds1 y = false := by
    rcases hheld' with h | ⟨_, h⟩
    · exact .inl h
    · refine .inr fun i c j rr k y hc hrr hy => ?_
      have h2 := h c (List.mem_of_getElem? hc)
      have h3 := List.any_eq_false.1 h2 rr (List.mem_of_getElem? hrr)
      have h4 : rr.any holds1 = false := by simpa using h3
      have h5 := List.any_eq_false.1 h4 y (List.mem_of_getElem? hy)
      simpa using h5
  obtain ⟨j1, j2⟩ := hS.join hH inv hinv hA h1 hbare
  subst her
  refine ⟨r', rfl, _, _, e2 ▸ j1, e2 ▸ j2, ?_⟩
  rw [← e1, ← e2]
  exact back_w hp hbl hap hpb hr (hheld'.imp id fun h => h.1)

variable {o : Oper} {ac : Act} {a : List AVal} {x : AVal}

theorem callFunc_run {P : Program} {f : FuncId} (hc : Callable P f) (args : Array Value) : (callFunc f args).run P w = .ok (.enter f args) w := by
  obtain ⟨fn, h1, h2, h3⟩ := hc
  have h2' : ¬ fn.body = none := fun hb => by rw [hb] at h2; cases h2
  simp [callFunc, h1, if_neg h2', if_neg h3]

theorem args_ok (hA : ARel ρ H F w a ac.tmps) (hG : GOk E F w) (l : Array Operand) : (mapL (evalA E a) (l.toList.map cArg)).length = (l.map ac.eval).toList.length ∧
    ∀ (i : Nat) x x', (mapL (evalA E a) (l.toList.map cArg))[i]? = some x → ((l.map ac.eval).toList)[i]? = some x' → WRel ρ H F w x x' := by
  rw [mapL_eq]
  refine ⟨by simp, fun i x x' hx hx' => ?_⟩
  simp at hx hx'
  obtain ⟨y, hy, rfl⟩ := hx
  obtain ⟨y', hy', rfl⟩ := hx'
  have : y' = y := Option.some.inj (hy'.symm.trans hy)
  subst this
  exact evalA_ok hA hG y'

theorem sound_call (hA : ARel ρ H F w a ac.tmps) (hH : HRel W ρ H F w) (hG : GOk E F w) (hcalls : ∀ f, FnOk E.P E.G f (E.call f)) {c : Call} {f : FuncId} (ho : o.op = .call c) (hc : c.callee = .value (.func f))
    (he : (evalOp E a H (.call f (c.args.toList.map cArg))).run = some (x, H')) : OpGives E.P o ac w (Post W ρ H F w x H') := by
  obtain ⟨h1, h2⟩ := args_ok (E := E) hA hG c.args
  obtain ⟨k1, k2⟩ := call_gives hH hG (hcalls f) h1 h2 he
  refine .enter (f := f) (args := c.args.map ac.eval) ?_ (by
    rw [Array.toArray_toList] at k2
    exact k2)
  have hr := callFunc_run (w := w) k1 (c.args.map ac.eval)
  simp [execOp, ho, resolve, hc, Act.eval, Deferred.ofValue, invoke, hr]

theorem sound_calld (hA : ARel ρ H F w a ac.tmps) (hH : HRel W ρ H F w) (hG : GOk E F w) (hcalls : ∀ f, FnOk E.P E.G f (E.call f)) {c : Call} {y : Operand} (ho : o.op = .call c) (hc : c.callee = .value y)
    (he : (evalOp E a H (.calld (cArg y) (c.args.toList.map cArg))).run = some (x, H')) : OpGives E.P o ac w (Post W ρ H F w x H') := by
  obtain ⟨h1, h2⟩ := args_ok (E := E) hA hG c.args
  have hy := evalA_ok hA hG y
  simp only [evalOp] at he
  revert he hy
  cases evalA E a (cArg y) with
  | fn f caps =>
    intro he hy
    simp only at he
    obtain ⟨vs, e, hl, h3⟩ := inv_fn hy
    obtain ⟨k1, k2⟩ := call_gives (args' := (c.args.map ac.eval).toList ++ vs.toList) hH hG (hcalls f) (by rw [app_eq]; simp only [List.length_append]; rw [h1, hl]; simp) (fun i u u' hu hu' => by
      rw [app_eq] at hu
      rcases Nat.lt_or_ge i (c.args.map ac.eval).toList.length with hi | hi
      · rw [List.getElem?_append_left (by rw [h1]; exact hi)] at hu
        rw [List.getElem?_append_left hi] at hu'
        exact h2 i u u' hu hu'
      · rw [List.getElem?_append_right (by rw [h1]; exact hi), h1] at hu
        rw [List.getElem?_append_right hi] at hu'
        exact .val (.cell (h3 _ u u' hu (by simpa using hu')))) he
    refine .enter (f := f) (args := c.args.map ac.eval ++ vs) ?_ ?_
    · have hr := callFunc_run (w := w) k1 (c.args.map ac.eval ++ vs)
      simp [execOp, ho, resolve, hc, e, Deferred.ofValue, invoke, hr]
    · have : ((c.args.map ac.eval).toList ++ vs.toList).toArray = c.args.map ac.eval ++ vs := by simp
      rw [this] at k2
      exact k2
  | _ => intro he; cases he
end
end Go.Ev

