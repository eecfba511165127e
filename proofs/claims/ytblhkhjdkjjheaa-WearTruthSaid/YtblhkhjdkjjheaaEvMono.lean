/- An operation does not care about blocks that it does not need (own work). -/
import Derived.Test.YtblhkhjdkjjheaaEvFn
set_option linter.unusedVariables false
set_option linter.unusedSimpArgs false
set_option linter.unnecessarySimpa false
set_option linter.unusedSectionVars false
namespace Go.Ev
open Go

/-- H1 lacks the blocks of D, that H2 has; since H10, H20 nobody touched them -/
structure Mono (D : Nat → Prop) (H10 H20 H1 H2 : List ABlk) : Prop where
  lenq : H1.length = H2.length
  same : ∀ id, ¬ D id → H1[id]? = H2[id]?
  dead : ∀ (id : Nat) b, D id → H1[id]? = some b → b.dead = true
  at1 : ∀ id, D id → H1[id]? = H10[id]?
  at2 : ∀ id, D id → H2[id]? = H20[id]?
  bound : ∀ id, D id → id < H1.length
section
variable {D : Nat → Prop} {H10 H20 H1 H2 : List ABlk} {E : Env} {a : List AVal}

theorem Mono.blkAt (h : Mono D H10 H20 H1 H2) {id g : Nat} {b : ABlk} (hb : Ev.blkAt H1 id g = some b) : ¬ D id ∧ Ev.blkAt H2 id g = some b := by
  obtain ⟨h1, h2, h3⟩ := blkAt_some hb
  have hD : ¬ D id := fun hD => by rw [h.dead id b hD h1] at h2; cases h2
  refine ⟨hD, ?_⟩
  have hs := h.same id hD
  unfold Ev.blkAt at hb ⊢
  rw [nth_eq] at hb ⊢
  rw [← hs]
  exact hb
theorem Mono.setAt (h : Mono D H10 H20 H1 H2) {id : Nat} (hD : ¬ D id) (b : ABlk) : Mono D H10 H20 (Ev.setAt H1 id b) (Ev.setAt H2 id b) := by
  rw [setAt_eq, setAt_eq]
  refine ⟨by simp [h.lenq], fun i hi => ?_, fun i c hi hc => ?_, fun i hi => ?_, fun i hi => ?_, fun i hi => by simpa using h.bound i hi⟩
  · by_cases e : id = i
    · subst e
      rcases Nat.lt_or_ge id H1.length with hl | hl
      · rw [List.getElem?_set_self hl, List.getElem?_set_self (h.lenq ▸ hl)]
      · rw [List.getElem?_eq_none (by simpa using hl), List.getElem?_eq_none (by simpa using h.lenq ▸ hl)]
    · rw [List.getElem?_set_ne e, List.getElem?_set_ne e]; exact h.same i hi
  all_goals
    have e : id ≠ i := fun e => hD (e ▸ hi)
  · rw [List.getElem?_set_ne e] at hc; exact h.dead i c hi hc
  · rw [List.getElem?_set_ne e]; exact h.at1 i hi
  · rw [List.getElem?_set_ne e]; exact h.at2 i hi
theorem Mono.app (h : Mono D H10 H20 H1 H2) (l : List ABlk) : Mono D H10 H20 (Ev.app H1 l) (Ev.app H2 l) := by
  rw [app_eq, app_eq]
  refine ⟨by simp [h.lenq], fun i hi => ?_, fun i c hi hc => ?_, fun i hi => ?_, fun i hi => ?_, fun i hi => by have := h.bound i hi; simp; omega⟩
  · rcases Nat.lt_or_ge i H1.length with hl | hl
    · rw [List.getElem?_append_left hl, List.getElem?_append_left (h.lenq ▸ hl)]; exact h.same i hi
    · rw [List.getElem?_append_right hl, List.getElem?_append_right (h.lenq ▸ hl), h.lenq]
  all_goals
    have hl := h.bound i hi
  · rw [List.getElem?_append_left hl] at hc; exact h.dead i c hi hc
  · rw [List.getElem?_append_left hl]; exact h.at1 i hi
  · rw [List.getElem?_append_left (h.lenq ▸ hl)]; exact h.at2 i hi
theorem Mono.modAt (h : Mono D H10 H20 H1 H2) {id : Nat} (hD : ¬ D id) (f : ABlk → ABlk) : Mono D H10 H20 (Ev.modAt H1 id f) (Ev.modAt H2 id f) := by
  have hs := h.same id hD
  unfold Ev.modAt
  rw [nth_eq, nth_eq, ← hs]
  cases H1[id]? with
  | none => exact h
  | some b => exact h.setAt hD _
theorem Mono.disown (h : Mono D H10 H20 H1 H2) {id : Nat} (hD : ¬ D id) : Mono D H10 H20 (Ev.disown H1 id) (Ev.disown H2 id) := h.modAt hD _

theorem Mono.freezeCell (h : Mono D H10 H20 H1 H2) {x y : AVal} {H1' : List ABlk} (hf : Ev.freezeCell H1 x = some (y, H1')) : ∃ H2', Ev.freezeCell H2 x = some (y, H2') ∧ Mono D H10 H20 H1' H2' := by
  unfold Ev.freezeCell at hf ⊢
  cases x with
  | v u =>
    simp only at hf ⊢
    cases ho : oneV u with
    | false => simp [ho] at hf
    | true =>
      simp only [ho] at hf ⊢
      injection hf with hf; injection hf with e1 e2; subst e1 e2
      exact ⟨_, rfl, h⟩
  | tree es n get =>
    simp only at hf ⊢
    injection hf with hf; injection hf with e1 e2; subst e1 e2
    exact ⟨_, rfl, h⟩
  | fn f caps =>
    cases caps with
    | nil =>
      simp only at hf ⊢
      injection hf with hf; injection hf with e1 e2; subst e1 e2
      exact ⟨_, rfl, h⟩
    | cons => cases hf
  | sl id off n g =>
    simp only at hf ⊢
    cases hb : Ev.blkAt H1 id g with
    | none => simp [hb] at hf
    | some b =>
      obtain ⟨hD, hb2⟩ := h.blkAt hb
      simp only [hb, hb2] at hf ⊢
      injection hf with hf; injection hf with e1 e2; subst e1 e2
      exact ⟨_, rfl, h.disown hD⟩
  | _ => cases hf
theorem Mono.freezeCells : ∀ {H1 H2 : List ABlk} {xs ys : List AVal} {H1' : List ABlk}, Mono D H10 H20 H1 H2 → Ev.freezeCells H1 xs = some (ys, H1') → ∃ H2', Ev.freezeCells H2 xs = some (ys, H2') ∧ Mono D H10 H20 H1' H2'
  | H1, H2, [], ys, H1', h, hf => by
    simp only [Ev.freezeCells] at hf ⊢
    injection hf with hf; injection hf with e1 e2; subst e1 e2
    exact ⟨_, rfl, h⟩
  | H1, H2, x :: xs, ys, H1', h, hf => by
    simp only [Ev.freezeCells] at hf ⊢
    cases h1 : Ev.freezeCell H1 x with
    | none => simp [h1] at hf
    | some yh =>
    obtain ⟨y, Ha⟩ := yh
    obtain ⟨Hb, h2, h3⟩ := h.freezeCell h1
    simp only [h1, h2] at hf ⊢
    cases h4 : Ev.freezeCells Ha xs with
    | none => simp [h4] at hf
    | some lh =>
    obtain ⟨l, Hc⟩ := lh
    obtain ⟨Hd, h5, h6⟩ := Mono.freezeCells h3 h4
    simp only [h4, h5] at hf ⊢
    injection hf with hf; injection hf with e1 e2; subst e1 e2
    exact ⟨_, rfl, h6⟩
theorem Mono.elemsOf (h : Mono D H10 H20 H1 H2) {es : Nat} {x : AVal} {l : List (List AVal)} (hf : Ev.elemsOf es H1 x = some l) : Ev.elemsOf es H2 x = some l := by
  unfold Ev.elemsOf at hf ⊢
  cases x with
  | sl id off n g =>
    simp only at hf ⊢
    cases hb : Ev.blkAt H1 id g with
    | none => simp [hb] at hf
    | some b =>
      obtain ⟨_, hb2⟩ := h.blkAt hb
      simp only [hb, hb2] at hf ⊢
      exact hf
  | v u =>
    cases u with
    | slice ad n c => cases ad <;> cases n <;> cases c <;> exact hf
    | _ => exact hf
  | _ => exact hf

/-! ### calls -/
theorem Mono.capArg (h : Mono D H10 H20 H1 H2) {p : Prep} {x : AVal} {r : AVal × Prep} (hf : Ev.capArg H1 p x = some r) : Ev.capArg H2 p x = some r := by
  unfold Ev.capArg at hf ⊢
  cases x with
  | ptr id i c g =>
    simp only at hf ⊢
    cases hb : Ev.blkAt H1 id g with
    | none => simp [hb] at hf
    | some b =>
      obtain ⟨_, hb2⟩ := h.blkAt hb
      simp only [hb, hb2] at hf ⊢
      exact hf
  | sl id off n g =>
    simp only at hf ⊢
    cases hb : Ev.blkAt H1 id g with
    | none => simp [hb] at hf
    | some b =>
      obtain ⟨_, hb2⟩ := h.blkAt hb
      simp only [hb, hb2] at hf ⊢
      exact hf
  | fn f caps => cases caps <;> exact hf
  | _ => exact hf
theorem Mono.capArgs (h : Mono D H10 H20 H1 H2) : ∀ {xs : List AVal} {p : Prep} {r : List AVal × Prep}, Ev.capArgs H1 p xs = some r → Ev.capArgs H2 p xs = some r
  | [], p, r, hf => hf
  | x :: xs, p, r, hf => by
    simp only [Ev.capArgs] at hf ⊢
    cases h1 : Ev.capArg H1 p x with
    | none => simp [h1] at hf
    | some yq =>
    rw [h.capArg h1]
    simp only [h1] at hf ⊢
    cases h2 : Ev.capArgs H1 yq.2 xs with
    | none => simp [h2] at hf
    | some lq =>
    rw [Mono.capArgs h h2]
    simp only [h2] at hf ⊢
    exact hf
theorem Mono.prepArg (h : Mono D H10 H20 H1 H2) {own : Bool} {p : Prep} {x : AVal} {r : AVal × Prep} (hf : Ev.prepArg H1 own p x = some r) : Ev.prepArg H2 own p x = some r := by
  unfold Ev.prepArg at hf ⊢
  cases x with
  | v u => exact hf
  | sl id off n g =>
    cases own with
    | false => exact h.capArg hf
    | true =>
      simp only at hf ⊢
      cases hb : Ev.blkAt H1 id g with
      | none => simp [hb] at hf
      | some b =>
        obtain ⟨_, hb2⟩ := h.blkAt hb
        simp only [hb, hb2] at hf ⊢
        exact hf
  | agg cs =>
    simp only at hf ⊢
    cases h1 : Ev.capArgs H1 p cs with
    | none => simp [h1] at hf
    | some lq =>
    rw [h.capArgs h1]
    simp only [h1] at hf ⊢
    exact hf
  | fn f cs =>
    simp only at hf ⊢
    cases h1 : Ev.capArgs H1 p cs with
    | none => simp [h1] at hf
    | some lq =>
    rw [h.capArgs h1]
    simp only [h1] at hf ⊢
    exact hf
  | _ => exact h.capArg hf
theorem Mono.prepArgs (h : Mono D H10 H20 H1 H2) {own : Nat → Bool} : ∀ {xs : List AVal} {p : Prep} {k : Nat} {r : List AVal × Prep}, Ev.prepArgs H1 own p k xs = some r → Ev.prepArgs H2 own p k xs = some r
  | [], p, k, r, hf => hf
  | x :: xs, p, k, r, hf => by
    simp only [Ev.prepArgs] at hf ⊢
    cases h1 : Ev.prepArg H1 (own k) p x with
    | none => simp [h1] at hf
    | some yq =>
    rw [h.prepArg h1]
    simp only [h1] at hf ⊢
    cases h2 : Ev.prepArgs H1 own yq.2 (k + 1) xs with
    | none => simp [h2] at hf
    | some lq =>
    rw [Mono.prepArgs h h2]
    simp only [h2] at hf ⊢
    exact hf
theorem Mono.blksAt (h : Mono D H10 H20 H1 H2) : ∀ {roots : List Nat} {r : List ABlk}, (∀ id ∈ roots, ¬ D id) → Ev.blksAt H1 roots = some r → Ev.blksAt H2 roots = some r
  | [], r, _, hf => hf
  | id :: roots, r, hr, hf => by
    simp only [Ev.blksAt, nth_eq] at hf ⊢
    rw [← h.same id (hr id (by simp))]
    cases hb : H1[id]? with
    | none => simp [hb] at hf
    | some b =>
    simp only [hb] at hf ⊢
    cases h2 : Ev.blksAt H1 roots with
    | none => simp [h2] at hf
    | some l =>
    rw [h.blksAt (fun i hi => hr i (by simp [hi])) h2]
    simp only [h2] at hf ⊢
    exact hf
theorem Mono.putBack : ∀ {roots : List Nat} {H1 H2 out H1' : List ABlk}, Mono D H10 H20 H1 H2 → (∀ id ∈ roots, ¬ D id) → Ev.putBack H1 roots out = some H1' → ∃ H2', Ev.putBack H2 roots out = some H2' ∧ Mono D H10 H20 H1' H2'
  | [], H1, H2, [], H1', h, _, hf => by
    simp only [Ev.putBack] at hf ⊢
    injection hf with hf; subst hf
    exact ⟨_, rfl, h⟩
  | [], H1, H2, c :: out, H1', h, _, hf => by
    simp only [Ev.putBack] at hf ⊢
    injection hf with hf; subst hf
    exact ⟨_, rfl, h.app _⟩
  | id :: roots, H1, H2, [], H1', h, _, hf => by simp [Ev.putBack] at hf
  | id :: roots, H1, H2, c :: out, H1', h, hr, hf => by
    simp only [Ev.putBack] at hf ⊢
    exact Mono.putBack (h.modAt (hr id (by simp)) _) (fun i hi => hr i (by simp [hi])) hf
theorem Mono.settle (h : Mono D H10 H20 H1 H2) (held : Bool) : ∀ {lent : List Nat}, (∀ id ∈ lent, ¬ D id) → Mono D H10 H20 (Ev.settle lent held H1) (Ev.settle lent held H2)
  | [], _ => h
  | id :: lent, hr => by
    have ih := Mono.settle h held (lent := lent) fun i hi => hr i (by simp [hi])
    rw [settle_cons, settle_cons]
    split
    · exact ih.disown (hr id (by simp))
    · exact ih
theorem Mono.backId (h : Mono D H10 H20 H1 H2) {roots : List Nat} (hr : ∀ id ∈ roots, ¬ D id) (j g : Nat) : Ev.backId H1 roots j g = Ev.backId H2 roots j g := by
  unfold Ev.backId
  rw [nth_eq]
  cases hj : roots[j]? with
  | none => simp only [len_eq, h.lenq]
  | some id => simp only [nth_eq, h.same id (hr id (List.mem_of_getElem? hj))]
theorem Mono.backC (h : Mono D H10 H20 H1 H2) {roots : List Nat} (hr : ∀ id ∈ roots, ¬ D id) : Ev.backC H1 roots = Ev.backC H2 roots := by
  funext x
  cases x with
  | ptr => simp only [Ev.backC, h.backId hr]
  | sl => simp only [Ev.backC, h.backId hr]
  | _ => rfl
theorem Mono.backVal1 (h : Mono D H10 H20 H1 H2) {roots : List Nat} (hr : ∀ id ∈ roots, ¬ D id) : Ev.backVal1 H1 roots = Ev.backVal1 H2 roots := by
  funext x
  unfold Ev.backVal1
  rw [h.backC hr]
theorem Mono.backVal (h : Mono D H10 H20 H1 H2) {roots : List Nat} (hr : ∀ id ∈ roots, ¬ D id) : Ev.backVal H1 roots = Ev.backVal H2 roots := by
  funext x
  unfold Ev.backVal
  rw [h.backVal1 hr]

theorem Mono.callA (h : Mono D H10 H20 H1 H2) {f : FuncId} {args : List AVal} {x : AVal} {H1' : List ABlk} (he : (Ev.callA E f args H1).run = some (x, H1')) : ∃ H2', (Ev.callA E f args H2).run = some (x, H2') ∧ Mono D H10 H20 H1' H2' := by
  unfold Ev.callA at he ⊢
  cases hpr : Ev.prepArgs H1 (E.own f) { roots := [], lent := [] } 0 args with
  | none => rw [hpr] at he; cases he
  | some q =>
  obtain ⟨args2, p⟩ := q
  obtain ⟨hp, _, hl2, hPr⟩ := prepArgs_ok (H := H1) (p := { roots := [], lent := [] }) ⟨List.nodup_nil, fun id h => by simp at h, fun id h => by simp at h⟩ hpr
  have hroots : ∀ id ∈ p.roots, ¬ D id := fun id hid hD => by
    obtain ⟨b, h1, h2⟩ := hp.live id hid
    rw [h.dead id b hD h1] at h2; cases h2
  have hlent : ∀ id ∈ p.lent, ¬ D id := fun id hid hD => by
    obtain ⟨b, h1, h2⟩ := hp.lent id hid
    rw [h.dead id b hD h1] at h2; cases h2
  rw [h.prepArgs hpr]
  rw [hpr] at he
  simp only at he ⊢
  cases hbl : Ev.blksAt H1 p.roots with
  | none => rw [hbl] at he; cases he
  | some blks =>
  rw [h.blksAt hroots hbl]
  cases hap : apartN p.lent p.roots with
  | false => rw [hbl, hap] at he; cases he
  | true =>
  rw [hbl, hap] at he
  simp only at he ⊢
  obtain ⟨⟨r, out⟩, hc, he⟩ := DT.run_bind_some he
  simp only at he
  cases hpb : Ev.putBack H1 p.roots out with
  | none => rw [hpb] at he; cases he
  | some H1b =>
  obtain ⟨H2b, k1, k2⟩ := Mono.putBack h hroots hpb
  rw [hpb] at he
  simp only at he
  have he' : some (Ev.backVal H1 p.roots r, Ev.settle p.lent (holdsTree r || out.any blkHolds) H1b) = some (x, H1') := he
  injection he' with he'; injection he' with e1 e2; subst e1 e2
  refine ⟨Ev.settle p.lent (holdsTree r || out.any blkHolds) H2b, ?_, k2.settle _ hlent⟩
  rw [DT.run_bind, hc]
  simp only [Option.bind_some, k1]
  rw [h.backVal hroots]
  rfl

theorem Mono.appendA (h : Mono D H10 H20 H1 H2) {et es bytes : Nat} {s y x : AVal} {H1' : List ABlk} (he : (Ev.appendA et es bytes s y H1).run = some (x, H1')) : ∃ H2', (Ev.appendA et es bytes s y H2).run = some (x, H2') ∧ Mono D H10 H20 H1' H2' := by
  unfold Ev.appendA at he ⊢
  cases hel : Ev.elemsOf es H1 y with
  | none => rw [hel] at he; cases he
  | some news =>
  rw [h.elemsOf hel]
  rw [hel] at he
  simp only at he ⊢
  have hnil : ∀ {H1' : List ABlk}, (DT.ite (Nat.beq (len news) 0) (.ret (AVal.v (.slice none 0 0), H1))
        (.guard (Nat.ble (len news * bytes) room) (.ret (.sl (len H1) 0 (len news) 0, newBlk H1 et es news)))).run = some (x, H1') →
      ∃ H2', (DT.ite (Nat.beq (len news) 0) (.ret (AVal.v (.slice none 0 0), H2))
        (.guard (Nat.ble (len news * bytes) room) (.ret (.sl (len H2) 0 (len news) 0, newBlk H2 et es news)))).run = some (x, H2') ∧ Mono D H10 H20 H1' H2' := fun {H1'} he => by
    rcases DT.run_ite_some he with ⟨h1, h2⟩ | ⟨h1, h2⟩
    · rw [h1]
      simp only [DT.run_ret] at h2
      injection h2 with h2; injection h2 with e1 e2; subst e1 e2
      exact ⟨_, rfl, h⟩
    · obtain ⟨h3, h4⟩ := DT.run_guard_some h2
      rw [h1]
      simp only [DT.run_ret] at h4
      injection h4 with h4; injection h4 with e1 e2; subst e1 e2
      have hl : len H2 = len H1 := by rw [len_eq, len_eq, h.lenq]
      refine ⟨newBlk H2 et es news, ?_, h.app _⟩
      rw [hl]
      simp only [DT.run_ite, DT.guard, h3, DT.run_ret, if_true, Bool.false_eq_true, if_false]
  cases s with
  | v u =>
    cases u with
    | slice ad n c =>
      cases ad with
      | some _ => cases he
      | none =>
        cases n with
        | succ _ => cases he
        | zero =>
          cases c with
          | succ _ => cases he
          | zero => exact hnil he
    | _ => cases he
  | sl id off n g =>
    simp only at he ⊢
    cases hb : Ev.blkAt H1 id g with
    | none => rw [hb] at he; cases he
    | some b =>
    obtain ⟨hD, hb2⟩ := h.blkAt hb
    rw [hb] at he
    rw [hb2]
    simp only at he ⊢
    split at he
    · rcases DT.run_ite_some he with ⟨h1, h2⟩ | ⟨h1, h2⟩
      · rw [h1]
        simp only [DT.run_ret] at h2
        injection h2 with h2; injection h2 with e1 e2; subst e1 e2
        exact ⟨_, rfl, h⟩
      · obtain ⟨h3, h4⟩ := DT.run_guard_some h2
        rw [h1]
        simp only [DT.run_ret] at h4
        injection h4 with h4; injection h4 with e1 e2; subst e1 e2
        refine ⟨_, ?_, h.setAt hD _⟩
        simp only [DT.run_ite, DT.guard, h3, DT.run_ret, if_true, Bool.false_eq_true, if_false]
    · cases he
  | _ => cases he

theorem Mono.copyA (h : Mono D H10 H20 H1 H2) {es : Nat} {d s x : AVal} {H1' : List ABlk} (he : Ev.copyA es d s H1 = some (x, H1')) : ∃ H2', Ev.copyA es d s H2 = some (x, H2') ∧ Mono D H10 H20 H1' H2' := by
  unfold Ev.copyA at he ⊢
  cases d with
  | sl id off n g =>
    simp only at he ⊢
    cases hb : Ev.blkAt H1 id g with
    | none => rw [hb] at he; cases he
    | some b =>
    obtain ⟨hD, hb2⟩ := h.blkAt hb
    rw [hb] at he
    rw [hb2]
    simp only at he ⊢
    cases hel : Ev.elemsOf es H1 s with
    | none => rw [hel] at he; cases he
    | some news =>
    rw [h.elemsOf hel]
    rw [hel] at he
    simp only at he ⊢
    split at he
    · injection he with he; injection he with e1 e2; subst e1 e2
      exact ⟨_, rfl, h.setAt hD _⟩
    · cases he
  | _ => cases he

/-- the operations that change memory -/
def isHeavy : PO → Bool
  | .alloc _ | .box _ | .bslice .. | .mksl .. | .store .. | .append .. | .copy .. | .call .. | .calld .. | .bad => true
  | _ => false

theorem Mono.evalOp (h : Mono D H10 H20 H1 H2) {o : PO} (ho : isHeavy o = true) {x : AVal} {H1' : List ABlk} (he : (Ev.evalOp E a H1 o).run = some (x, H1')) : ∃ H2', (Ev.evalOp E a H2 o).run = some (x, H2') ∧ Mono D H10 H20 H1' H2' := by
  cases o with
  | alloc z =>
    simp only [Ev.evalOp, DT.run_ret] at he ⊢
    injection he with he; injection he with e1 e2; subst e1 e2
    have hl : len H2 = len H1 := by rw [len_eq, len_eq, h.lenq]
    exact ⟨_, by rw [hl]; rfl, h.app _⟩
  | box y =>
    simp only [Ev.evalOp] at he ⊢
    cases hf : Ev.freezeCells H1 (aCells (evalA E a y)) with
    | none => rw [hf] at he; cases he
    | some p =>
    obtain ⟨cs, Ha⟩ := p
    obtain ⟨Hb, h1, h2⟩ := Mono.freezeCells h hf
    rw [hf] at he
    rw [h1]
    simp only [DT.run_ret] at he ⊢
    injection he with he; injection he with e1 e2; subst e1 e2
    have hl : len Hb = len Ha := by rw [len_eq, len_eq, h2.lenq]
    exact ⟨_, by rw [hl]; rfl, h2.app _⟩
  | bslice et es n z parts =>
    simp only [Ev.evalOp] at he ⊢
    cases hl : fillA z (mapL (fun p => (p.1, p.2.1, evalA E a p.2.2)) parts) with
    | none => rw [hl] at he; cases he
    | some cs =>
    rw [hl] at he
    simp only at he ⊢
    cases hf : Ev.freezeCells H1 cs with
    | none => rw [hf] at he; cases he
    | some p =>
    obtain ⟨cs, Ha⟩ := p
    obtain ⟨Hb, h1, h2⟩ := Mono.freezeCells h hf
    rw [hf] at he
    rw [h1]
    simp only [DT.run_ret] at he ⊢
    injection he with he; injection he with e1 e2; subst e1 e2
    have hl : len Hb = len Ha := by rw [len_eq, len_eq, h2.lenq]
    exact ⟨_, by rw [hl]; rfl, h2.app _⟩
  | mksl et es bytes z l c =>
    simp only [Ev.evalOp] at he ⊢
    cases h1 : intOf? (evalA E a l) with
    | none => rw [h1] at he; cases he
    | some n =>
    cases h2 : intOf? (evalA E a c) with
    | none => rw [h1, h2] at he; cases he
    | some m =>
    rw [h1, h2] at he
    simp only at he ⊢
    obtain ⟨h3, h4⟩ := DT.run_guard_some he
    simp only [DT.run_ret] at h4
    injection h4 with h4; injection h4 with e1 e2; subst e1 e2
    refine ⟨_, ?_, h.app _⟩
    simp only [DT.guard, DT.run_ite, h3, if_true, DT.run_ret]
    have hl : len H2 = len H1 := by rw [len_eq, len_eq, h.lenq]
    rw [hl]
    rfl
  | store n p y =>
    simp only [Ev.evalOp] at he ⊢
    revert he
    cases evalA E a p with
    | ptr id i c g =>
      intro he
      simp only at he ⊢
      cases hf : Ev.freezeCells H1 (aCells (evalA E a y)) with
      | none => rw [hf] at he; cases he
      | some q =>
      obtain ⟨cs, Ha⟩ := q
      obtain ⟨Hb, h1, h2⟩ := Mono.freezeCells h hf
      rw [hf] at he
      rw [h1]
      simp only at he ⊢
      cases hb : Ev.blkAt Ha id g with
      | none => rw [hb] at he; cases he
      | some b =>
      obtain ⟨hD, hb2⟩ := h2.blkAt hb
      rw [hb] at he
      rw [hb2]
      simp only at he ⊢
      obtain ⟨hg, he⟩ := DT.run_guard_some he
      rw [hg]
      simp only [DT.run_ret] at he ⊢
      injection he with he; injection he with e1 e2; subst e1 e2
      exact ⟨_, rfl, h2.setAt hD _⟩
    | _ => intro he; cases he
  | append et es bytes s y => exact h.appendA he
  | copy es d s =>
    obtain ⟨H2', h1, h2⟩ := h.copyA (opt2_run he)
    refine ⟨H2', ?_, h2⟩
    show (opt2 (Ev.copyA es (evalA E a d) (evalA E a s) H2)).run = _
    rw [h1]
    rfl
  | call f args => exact h.callA he
  | calld y args =>
    simp only [Ev.evalOp] at he ⊢
    revert he
    cases evalA E a y with
    | fn f caps => intro he; exact h.callA he
    | _ => intro he; cases he
  | bad => cases he
  | _ => cases ho
end
end Go.Ev

