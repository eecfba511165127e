/- A call in the evaluator and in the model (own work). -/
import Derived.Test.YthbcfinnphpcbaaDoorEvJoin
namespace Go.Ev
open Go
section
variable {W : Nat → Prop} {ρ ρ1 : Rho} {H H2 blks out : List ABlk} {F F1 : Fz} {w w1 : World}

/-! ### the places of the ids -/
theorem idxFrom_some : ∀ (l : List Nat) (k id j : Nat), idxFrom id k l = some j → k ≤ j ∧ l[j - k]? = some id
  | [], k, id, j, h => by simp [idxFrom] at h
  | x :: l, k, id, j, h => by
    simp only [idxFrom] at h
    cases hb : Nat.beq x id with
    | true =>
      simp only [hb] at h
      injection h with h
      subst h
      have := Nat.eq_of_beq_eq_true hb
      simp [this]
    | false =>
      simp only [hb] at h
      obtain ⟨h1, h2⟩ := idxFrom_some l (k + 1) id j h
      refine ⟨by omega, ?_⟩
      rw [show j - k = (j - (k + 1)) + 1 by omega]
      simpa using h2
theorem idxFrom_none : ∀ (l : List Nat) (k id : Nat), idxFrom id k l = none → id ∉ l
  | [], k, id, _ => by simp
  | x :: l, k, id, h => by
    simp only [idxFrom] at h
    cases hb : Nat.beq x id with
    | true => simp [hb] at h
    | false =>
      simp only [hb] at h
      have h1 := idxFrom_none l (k + 1) id h
      have := Nat.ne_of_beq_eq_false hb
      simp [h1]
      exact fun h => this h.symm

noncomputable def posOf (roots : List Nat) (id : Nat) : Option Nat := idxFrom id 0 roots
theorem posOf_some {roots : List Nat} {id j : Nat} (h : posOf roots id = some j) : roots[j]? = some id := by
  have := (idxFrom_some roots 0 id j h).2
  simpa using this
theorem posOf_of {roots : List Nat} {id j : Nat} (hn : roots.Nodup) (h : roots[j]? = some id) : posOf roots id = some j := by
  cases hp : posOf roots id with
  | none => exact absurd (List.mem_of_getElem? h) (idxFrom_none roots 0 id hp)
  | some j' =>
    have h' := posOf_some hp
    have hj := (List.getElem?_eq_some_iff.1 h)
    have hj' := (List.getElem?_eq_some_iff.1 h')
    obtain ⟨a1, a2⟩ := hj
    obtain ⟨b1, b2⟩ := hj'
    have := (List.getElem_inj hn).1 (b2.trans a2.symm)
    rw [this]

theorem idxIn_ok {roots r : List Nat} {id j : Nat} (hn : roots.Nodup) (h : idxIn roots id = (j, r)) : r[j]? = some id ∧ r.Nodup ∧ (∀ (i : Nat) y, roots[i]? = some y → r[i]? = some y) ∧ ∀ y ∈ r, y ∈ roots ∨ y = id := by
  unfold idxIn at h
  split at h
  · rename_i j' hj
    injection h with e1 e2
    subst e1 e2
    exact ⟨posOf_some hj, hn, fun _ _ h => h, fun y hy => .inl hy⟩
  · rename_i hj
    have hnm := idxFrom_none roots 0 id hj
    rw [len_eq, app_eq] at h
    injection h with e1 e2
    subst e1 e2
    refine ⟨by simp, ?_, fun i y hy => ?_, fun y hy => ?_⟩
    · rw [List.nodup_append]
      exact ⟨hn, by simp, fun a ha b hb => by simp at hb; subst hb; exact fun e => hnm (e ▸ ha)⟩
    · rw [List.getElem?_append_left (List.getElem?_eq_some_iff.1 hy).1]; exact hy
    · simpa using hy

/-! ### the arguments -/
structure PrepOk (H : List ABlk) (p : Prep) : Prop where
  nodup : p.roots.Nodup
  live : ∀ id ∈ p.roots, ∃ b, H[id]? = some b ∧ b.dead = false
  lent : ∀ id ∈ p.lent, ∃ b, H[id]? = some b ∧ b.dead = false
def PrepLe (p q : Prep) : Prop := (∀ (i : Nat) y, p.roots[i]? = some y → q.roots[i]? = some y) ∧ ∀ y ∈ p.lent, y ∈ q.lent
theorem PrepLe.refl (p : Prep) : PrepLe p p := ⟨fun _ _ h => h, fun _ h => h⟩
theorem PrepLe.trans {p q r : Prep} (h : PrepLe p q) (k : PrepLe q r) : PrepLe p r := ⟨fun i y hy => k.1 i y (h.1 i y hy), fun y hy => k.2 y (h.2 y hy)⟩

inductive PrC (H : List ABlk) (p : Prep) : AVal → AVal → Prop
  | v (u : Value) : PrC H p (.v u) (.v u)
  | ptr (id i c g j : Nat) (b : ABlk) (hb : blkAt H id g = some b) (hj : p.roots[j]? = some id) : PrC H p (.ptr id i c g) (.ptr j i c 0)
  | tree (es n : Nat) (get : Nat → List AVal) : PrC H p (.tree es n get) (.tree es n get)
  | tptr (cs : List AVal) : PrC H p (.tptr cs) (.tptr cs)
  | lend (id off n g : Nat) (b : ABlk) (hb : blkAt H id g = some b) (hl : id ∈ p.lent) : PrC H p (.sl id off n g) (treeOf b off n)
  | fn (f : FuncId) : PrC H p (.fn f []) (.fn f [])
inductive PrV (H : List ABlk) (p : Prep) : AVal → AVal → Prop
  | cell {x z : AVal} (h : PrC H p x z) : PrV H p x z
  | agg (cs ds : List AVal) (hl : ds.length = cs.length) (h : ∀ (i : Nat) x z, cs[i]? = some x → ds[i]? = some z → PrC H p x z) : PrV H p (.agg cs) (.agg ds)
  | fn (f : FuncId) (cs ds : List AVal) (hl : ds.length = cs.length) (h : ∀ (i : Nat) x z, cs[i]? = some x → ds[i]? = some z → PrC H p x z) : PrV H p (.fn f cs) (.fn f ds)
  | sl (id n g j : Nat) (b : ABlk) (hb : blkAt H id g = some b) (hn : n = b.elems.length) (hj : p.roots[j]? = some id) : PrV H p (.sl id 0 n g) (.sl j 0 n 0)

theorem PrC.le {p q : Prep} {x z : AVal} (h : PrC H p x z) (hle : PrepLe p q) : PrC H q x z := by
  cases h with
  | v u => exact .v u
  | ptr id i c g j b hb hj => exact .ptr id i c g j b hb (hle.1 _ _ hj)
  | tree es n get => exact .tree es n get
  | tptr cs => exact .tptr cs
  | lend id off n g b hb hl => exact .lend id off n g b hb (hle.2 _ hl)
  | fn f => exact .fn f
theorem PrV.le {p q : Prep} {x z : AVal} (h : PrV H p x z) (hle : PrepLe p q) : PrV H q x z := by
  cases h with
  | cell h => exact .cell (h.le hle)
  | agg cs ds hl h => exact .agg cs ds hl fun i x z hx hz => (h i x z hx hz).le hle
  | fn f cs ds hl h => exact .fn f cs ds hl fun i x z hx hz => (h i x z hx hz).le hle
  | sl id n g j b hb hn hj => exact .sl id n g j b hb hn (hle.1 _ _ hj)

theorem capArg_ok {p q : Prep} {x z : AVal} (hp : PrepOk H p) (h : capArg H p x = some (z, q)) : PrepOk H q ∧ PrepLe p q ∧ PrC H q x z := by
  unfold capArg at h
  split at h
  · injection h with h; injection h with e1 e2; subst e1 e2; exact ⟨hp, .refl p, .v _⟩
  · rename_i id i c g
    cases hb : blkAt H id g with
    | none => simp [hb] at h
    | some b =>
    obtain ⟨hb1, hb2, hb3⟩ := blkAt_some hb
    simp only [hb] at h
    cases hi : idxIn p.roots id with
    | mk j r =>
    simp only [hi] at h
    injection h with h; injection h with e1 e2; subst e1 e2
    obtain ⟨h1, h2, h3, h4⟩ := idxIn_ok hp.nodup hi
    refine ⟨⟨h2, fun y hy => ?_, hp.lent⟩, ⟨h3, fun y hy => hy⟩, .ptr id i c g j b hb h1⟩
    rcases h4 y hy with h | rfl
    · exact hp.live y h
    · exact ⟨b, hb1, hb2⟩
  · injection h with h; injection h with e1 e2; subst e1 e2; exact ⟨hp, .refl p, .tree _ _ _⟩
  · injection h with h; injection h with e1 e2; subst e1 e2; exact ⟨hp, .refl p, .tptr _⟩
  · rename_i id off n g
    cases hb : blkAt H id g with
    | none => simp [hb] at h
    | some b =>
    obtain ⟨hb1, hb2, hb3⟩ := blkAt_some hb
    simp only [hb] at h
    injection h with h; injection h with e1 e2; subst e1 e2
    refine ⟨⟨hp.nodup, hp.live, fun y hy => ?_⟩, ⟨fun _ _ h => h, fun y hy => by simp [hy]⟩, .lend id off n g b hb (by simp)⟩
    rcases List.mem_cons.1 hy with rfl | hy
    · exact ⟨b, hb1, hb2⟩
    · exact hp.lent y hy
  · injection h with h; injection h with e1 e2; subst e1 e2; exact ⟨hp, .refl p, .fn _⟩
  · cases h

theorem capArgs_ok : ∀ {xs zs : List AVal} {p q : Prep}, PrepOk H p → capArgs H p xs = some (zs, q) → PrepOk H q ∧ PrepLe p q ∧ zs.length = xs.length ∧ ∀ (i : Nat) x z, xs[i]? = some x → zs[i]? = some z → PrC H q x z
  | [], zs, p, q, hp, h => by
    simp only [capArgs] at h
    injection h with h; injection h with e1 e2; subst e1 e2
    exact ⟨hp, .refl p, rfl, fun i x z hx => by simp at hx⟩
  | x :: xs, zs, p, q, hp, h => by
    simp only [capArgs] at h
    cases h1 : capArg H p x with
    | none => simp [h1] at h
    | some yq =>
    obtain ⟨y, p1⟩ := yq
    simp only [h1] at h
    cases h2 : capArgs H p1 xs with
    | none => simp [h2] at h
    | some lq =>
    obtain ⟨l, p2⟩ := lq
    simp only [h2] at h
    injection h with h; injection h with e1 e2; subst e1 e2
    obtain ⟨a1, a2, a3⟩ := capArg_ok hp h1
    obtain ⟨b1, b2, b3, b4⟩ := capArgs_ok a1 h2
    refine ⟨b1, a2.trans b2, by simp [b3], fun i u z hu hz => ?_⟩
    cases i with
    | zero => simp at hu hz; subst hu hz; exact a3.le b2
    | succ i => exact b4 i u z (by simpa using hu) (by simpa using hz)

theorem prepArg_ok {p q : Prep} {own : Bool} {x z : AVal} (hp : PrepOk H p) (h : prepArg H own p x = some (z, q)) : PrepOk H q ∧ PrepLe p q ∧ PrV H q x z := by
  unfold prepArg at h
  split at h
  · injection h with h; injection h with e1 e2; subst e1 e2; exact ⟨hp, .refl p, .cell (.v _)⟩
  · rename_i id off n g
    split at h
    · cases hb : blkAt H id g with
      | none => simp [hb] at h
      | some b =>
      obtain ⟨hb1, hb2, hb3⟩ := blkAt_some hb
      simp only [hb, len_eq] at h
      cases hc : (Nat.beq off 0 && Nat.beq n b.elems.length) with
      | false => simp [hc] at h
      | true =>
      simp only [hc] at h
      simp only [Bool.and_eq_true] at hc
      have h0 := Nat.eq_of_beq_eq_true hc.1
      have hn := Nat.eq_of_beq_eq_true hc.2
      subst h0
      cases hi : idxIn p.roots id with
      | mk j r =>
      simp only [hi] at h
      injection h with h; injection h with e1 e2; subst e1 e2
      obtain ⟨h1, h2, h3, h4⟩ := idxIn_ok hp.nodup hi
      refine ⟨⟨h2, fun y hy => ?_, hp.lent⟩, ⟨h3, fun y hy => hy⟩, .sl id n g j b hb hn h1⟩
      rcases h4 y hy with h | rfl
      · exact hp.live y h
      · exact ⟨b, hb1, hb2⟩
    · obtain ⟨a1, a2, a3⟩ := capArg_ok hp h
      exact ⟨a1, a2, .cell a3⟩
  · cases h1 : capArgs H p _ with
    | none => rw [h1] at h; cases h
    | some lq =>
    obtain ⟨l, p2⟩ := lq
    rw [h1] at h
    injection h with h; injection h with e1 e2; subst e1 e2
    obtain ⟨b1, b2, b3, b4⟩ := capArgs_ok hp h1
    exact ⟨b1, b2, .agg _ _ b3 b4⟩
  · cases h1 : capArgs H p _ with
    | none => rw [h1] at h; cases h
    | some lq =>
    obtain ⟨l, p2⟩ := lq
    rw [h1] at h
    injection h with h; injection h with e1 e2; subst e1 e2
    obtain ⟨b1, b2, b3, b4⟩ := capArgs_ok hp h1
    exact ⟨b1, b2, .fn _ _ _ b3 b4⟩
  · obtain ⟨a1, a2, a3⟩ := capArg_ok hp h
    exact ⟨a1, a2, .cell a3⟩

theorem prepArgs_ok {own : Nat → Bool} : ∀ {xs zs : List AVal} {p q : Prep} {k : Nat}, PrepOk H p → prepArgs H own p k xs = some (zs, q) → PrepOk H q ∧ PrepLe p q ∧ zs.length = xs.length ∧ ∀ (i : Nat) x z, xs[i]? = some x → zs[i]? = some z → PrV H q x z
  | [], zs, p, q, k, hp, h => by
    simp only [prepArgs] at h
    injection h with h; injection h with e1 e2; subst e1 e2
    exact ⟨hp, .refl p, rfl, fun i x z hx => by simp at hx⟩
  | x :: xs, zs, p, q, k, hp, h => by
    simp only [prepArgs] at h
    cases h1 : prepArg H (own k) p x with
    | none => simp [h1] at h
    | some yq =>
    obtain ⟨y, p1⟩ := yq
    simp only [h1] at h
    cases h2 : prepArgs H own p1 (k + 1) xs with
    | none => simp [h2] at h
    | some lq =>
    obtain ⟨l, p2⟩ := lq
    simp only [h2] at h
    injection h with h; injection h with e1 e2; subst e1 e2
    obtain ⟨a1, a2, a3⟩ := prepArg_ok hp h1
    obtain ⟨b1, b2, b3, b4⟩ := prepArgs_ok a1 h2
    refine ⟨b1, a2.trans b2, by simp [b3], fun i u z hu hz => ?_⟩
    cases i with
    | zero => simp at hu hz; subst hu hz; exact a3.le b2
    | succ i => exact b4 i u z (by simpa using hu) (by simpa using hz)

theorem blksAt_ok : ∀ {roots : List Nat} {blks : List ABlk}, blksAt H roots = some blks → blks.length = roots.length ∧ ∀ (j : Nat) id, roots[j]? = some id → ∃ b, H[id]? = some b ∧ blks[j]? = some { b with g := 0 }
  | [], blks, h => by
    simp only [blksAt] at h
    injection h with h; subst h
    exact ⟨rfl, fun j id h => by simp at h⟩
  | id :: roots, blks, h => by
    simp only [blksAt, nth_eq] at h
    cases hb : H[id]? with
    | none => simp [hb] at h
    | some b =>
    simp only [hb] at h
    cases hr : blksAt H roots with
    | none => simp [hr] at h
    | some l =>
    simp only [hr] at h
    injection h with h; subst h
    obtain ⟨h1, h2⟩ := blksAt_ok hr
    refine ⟨by simp [h1], fun j id' hj => ?_⟩
    cases j with
    | zero => simp at hj; subst hj; exact ⟨b, hb, rfl⟩
    | succ j => exact h2 j id' (by simpa using hj)

/-- the arguments, as the callee has them -/
theorem PrC.rel {p : Prep} {x z : AVal} {x' : Value} (hH : HRel W ρ H F w) (hbl : blksAt H p.roots = some blks) (inv : Nat → Nat) (hinv : ∀ (j : Nat) id, p.roots[j]? = some id → inv j = id)
    (h : PrC H p x z) (hx : CRel ρ H F w x x') : CRel (fun j => ρ (inv j)) blks (CallF ρ H F (· ∈ p.lent)) w z x' := by
  obtain ⟨hl, hat⟩ := blksAt_ok hbl
  have hmore : ∀ b o, F b o → CallF ρ H F (· ∈ p.lent) b o := fun b o h => .inl h
  cases h with
  | v u =>
    have := inv_v (.val (.cell hx))
    subst this
    exact .v _
  | ptr id i c g j b hb hj =>
    obtain ⟨ad, b', e, hb1, hd1, hg1, hh⟩ := inv_ptr (.val (.cell hx))
    obtain ⟨hb2, hd2, hg2⟩ := blkAt_some hb
    have : b' = b := Option.some.inj (hb1.symm.trans hb2)
    subst this
    obtain ⟨b3, hb3, hb4⟩ := hat j id hj
    have : b3 = b' := Option.some.inj (hb3.symm.trans hb1)
    subst this
    rw [e]
    refine .ptr j i c 0 ad _ hb4 hd1 (Nat.zero_le _) fun _ => ?_
    rw [hh hg2]
    simp only [hinv j id hj]
  | tree es n get =>
    have ht := inv_tree (.val (.cell hx))
    exact .mem (ht.adv hmore fun _ _ _ => rfl)
  | tptr cs =>
    obtain ⟨ad, vs, e, hs, hF, hw, hr⟩ := inv_tptr (.val (.cell hx))
    rw [e]
    exact .tptr cs ad vs hs (fun c hc => hmore _ _ (hF c hc)) hw fun c hc => (hr c hc).adv hmore fun _ _ _ => rfl
  | lend id off n g b hb hl =>
    obtain ⟨hb2, hd2, hg2⟩ := blkAt_some hb
    refine .mem (treeOf_ok hH hb (.val (.cell hx)) hmore fun o ho => ?_)
    obtain ⟨cc, t, fr, hB⟩ := hH.blk id b hb2 hd2
    cases hown : b.own with
    | false => exact .inl (hB.kept hown o ho)
    | true => exact .inr ⟨id, b, hl, hb2, hown, rfl, by omega, by omega⟩
  | fn f =>
    cases hx with
    | mem h => cases h; exact .mem (.fn f)
theorem PrV.rel {p : Prep} {x z : AVal} {x' : Value} (hH : HRel W ρ H F w) (hbl : blksAt H p.roots = some blks) (inv : Nat → Nat) (hinv : ∀ (j : Nat) id, p.roots[j]? = some id → inv j = id)
    (h : PrV H p x z) (hx : WRel ρ H F w x x') : WRel (fun j => ρ (inv j)) blks (CallF ρ H F (· ∈ p.lent)) w z x' := by
  obtain ⟨hl, hat⟩ := blksAt_ok hbl
  cases h with
  | cell h =>
    have hc : CRel ρ H F w x x' ∨ ∃ f, x = .fn f [] ∧ z = .fn f [] := by
      cases hx with
      | val hx => cases hx with
        | cell hx => exact .inl hx
        | agg => cases h
        | fn f caps vs hl h' => cases h; exact .inr ⟨_, rfl, rfl⟩
      | tup => cases h
    rcases hc with hc | ⟨f, rfl, rfl⟩
    · exact .val (.cell (h.rel hH hbl inv hinv hc))
    · obtain ⟨vs, e, hl, _⟩ := inv_fn hx
      have : vs = #[] := by simpa using hl.symm
      rw [e, this]
      exact .val (.cell (.mem (.fn f)))
  | agg cs ds hl2 h =>
    obtain ⟨vs, e, hl3, h3⟩ := inv_agg hx
    rw [e]
    exact .val (.agg ds vs (hl2.trans hl3) fun i y y' hy hy' => by
      have hi : i < cs.length := hl2 ▸ (List.getElem?_eq_some_iff.1 hy).1
      exact (h i _ y (List.getElem?_eq_getElem hi) hy).rel hH hbl inv hinv (h3 i _ y' (List.getElem?_eq_getElem hi) hy'))
  | fn f cs ds hl2 h =>
    obtain ⟨vs, e, hl3, h3⟩ := inv_fn hx
    rw [e]
    exact .val (.fn f ds vs (hl2.trans hl3) fun i y y' hy hy' => by
      have hi : i < cs.length := hl2 ▸ (List.getElem?_eq_some_iff.1 hy).1
      exact (h i _ y (List.getElem?_eq_getElem hi) hy).rel hH hbl inv hinv (h3 i _ y' (List.getElem?_eq_getElem hi) hy'))
  | sl id n g j b hb hn hj =>
    obtain ⟨ad, cap, b', e, hb1, hd1, hg1, hn1, hs1, hm1, hh⟩ := inv_sl hx
    obtain ⟨hb2, hd2, hg2⟩ := blkAt_some hb
    have : b' = b := Option.some.inj (hb1.symm.trans hb2)
    subst this
    obtain ⟨b3, hb3, hb4⟩ := hat j id hj
    have : b3 = b' := Option.some.inj (hb3.symm.trans hb1)
    subst this
    rw [e]
    refine .val (.cell (.sl j 0 n 0 ad cap _ hb4 hd1 (Nat.zero_le _) hn1 hs1 hm1 fun _ => ?_))
    have := hh hg2
    simpa only [hinv j id hj] using this
end
end Go.Ev
