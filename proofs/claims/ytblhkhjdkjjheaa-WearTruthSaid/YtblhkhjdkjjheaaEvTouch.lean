/- Which blocks an operation may change (own work). -/
import Derived.Test.YtblhkhjdkjjheaaEvFloat
set_option linter.unusedVariables false
set_option linter.unusedSimpArgs false
set_option linter.unnecessarySimpa false
set_option linter.unusedSectionVars false
namespace Go.Ev
open Go
section
variable {E : Env} {a : List AVal} {H H1 : List ABlk}

theorem LikeAt.disown (H : List ABlk) (l id : Nat) : LikeAt H (disown H l) id := fun b hb => by
  unfold Ev.disown modAt
  rw [nth_eq]
  by_cases e : l = id
  · subst e
    simp only [hb, setAt_eq]
    rw [List.getElem?_set_self (List.getElem?_eq_some_iff.1 hb).1]
    exact ⟨_, rfl, rfl, rfl, rfl, rfl, rfl⟩
  · cases H[l]? with
    | none => exact ⟨b, hb, .refl b⟩
    | some c =>
      simp only [setAt_eq]
      rw [List.getElem?_set_ne e]
      exact ⟨b, hb, .refl b⟩
theorem LikeAt.setAt (H : List ABlk) {l id : Nat} (c : ABlk) (hne : l ≠ id) : LikeAt H (Ev.setAt H l c) id := fun b hb => by
  rw [setAt_eq, List.getElem?_set_ne hne]
  exact ⟨b, hb, .refl b⟩
theorem LikeAt.modAt (H : List ABlk) {l id : Nat} (f : ABlk → ABlk) (hne : l ≠ id) : LikeAt H (Ev.modAt H l f) id := by
  unfold Ev.modAt
  cases nth H l with
  | none => exact .refl _ _
  | some c => exact .setAt H _ hne
theorem LikeAt.app (H l : List ABlk) (id : Nat) : LikeAt H (Ev.app H l) id := fun b hb => by
  rw [app_eq, List.getElem?_append_left (List.getElem?_eq_some_iff.1 hb).1]
  exact ⟨b, hb, .refl b⟩
theorem freezeCell_like {x y : AVal} (h : freezeCell H x = some (y, H1)) (id : Nat) : LikeAt H H1 id := by
  unfold freezeCell at h
  cases x with
  | v u =>
    simp only at h
    split at h
    · injection h with h; injection h with e1 e2; subst e2; exact .refl _ _
    · cases h
  | tree es n get => simp only at h; injection h with h; injection h with e1 e2; subst e2; exact .refl _ _
  | fn f caps =>
    cases caps with
    | nil => simp only at h; injection h with h; injection h with e1 e2; subst e2; exact .refl _ _
    | cons => cases h
  | sl l off n g =>
    simp only at h
    split at h
    · injection h with h; injection h with e1 e2; subst e2; exact .disown _ _ _
    · cases h
  | _ => cases h
theorem freezeCells_like : ∀ {xs ys : List AVal} {H H1 : List ABlk}, freezeCells H xs = some (ys, H1) → ∀ id, LikeAt H H1 id
  | [], ys, H, H1, h, id => by
    simp only [freezeCells] at h
    injection h with h; injection h with e1 e2; subst e2; exact .refl _ _
  | x :: xs, ys, H, H1, h, id => by
    simp only [freezeCells] at h
    cases h1 : freezeCell H x with
    | none => simp [h1] at h
    | some p =>
    obtain ⟨y, Ha⟩ := p
    simp only [h1] at h
    cases h2 : freezeCells Ha xs with
    | none => simp [h2] at h
    | some q =>
    obtain ⟨l, Hb⟩ := q
    simp only [h2] at h
    injection h with h; injection h with e1 e2; subst e2
    exact (freezeCell_like h1 id).trans (freezeCells_like h2 id)

theorem idxIn_mem {roots r : List Nat} {id j : Nat} (h : idxIn roots id = (j, r)) {y : Nat} (hy : y ∈ r) : y ∈ roots ∨ y = id := by
  unfold idxIn at h
  split at h
  · injection h with e1 e2; subst e2; exact .inl hy
  · rw [app_eq] at h
    injection h with e1 e2; subst e2
    simpa using hy
theorem capArg_roots {p q : Prep} {x z : AVal} (h : capArg H p x = some (z, q)) {y : Nat} (hy : y ∈ q.roots) : y ∈ p.roots ∨ y ∈ ptrIds [x] := by
  have hsame : ∀ {z' : AVal}, some (z', p) = some (z, q) → y ∈ p.roots ∨ y ∈ ptrIds [x] := fun {z'} e => by
    injection e with e; injection e with e1 e2; subst e2; exact .inl hy
  unfold capArg at h
  cases x with
  | v u => exact hsame h
  | tree es n get => exact hsame h
  | tptr cs => exact hsame h
  | fn f caps => cases caps with
    | nil => exact hsame h
    | cons => cases h
  | ptr id i c g =>
    simp only at h
    split at h
    · cases hi : idxIn p.roots id with
      | mk j r =>
        simp only [hi] at h
        injection h with h; injection h with e1 e2; subst e2
        rcases idxIn_mem hi hy with h | h
        · exact .inl h
        · subst h; exact .inr (by show y ∈ y :: _; exact List.mem_cons_self)
    · cases h
  | sl id off n g =>
    simp only at h
    split at h
    · injection h with h; injection h with e1 e2; subst e2; exact .inl hy
    · cases h
  | _ => cases h
theorem ptrIds_cons (x : AVal) (l : List AVal) : ptrIds (x :: l) = match x with
    | .ptr id _ _ _ => id :: ptrIds l
    | _ => ptrIds l := rfl
theorem ptrIds_cons_mem {x : AVal} {l : List AVal} {y : Nat} : y ∈ ptrIds (x :: l) ↔ y ∈ ptrIds [x] ∨ y ∈ ptrIds l := by
  rw [ptrIds_cons, ptrIds_cons]
  have : ptrIds [] = [] := rfl
  cases x <;> simp [this]
theorem capArgs_roots : ∀ {xs zs : List AVal} {p q : Prep}, capArgs H p xs = some (zs, q) → ∀ {y : Nat}, y ∈ q.roots → y ∈ p.roots ∨ y ∈ ptrIds xs
  | [], zs, p, q, h, y, hy => by
    simp only [capArgs] at h
    injection h with h; injection h with e1 e2; subst e2; exact .inl hy
  | x :: xs, zs, p, q, h, y, hy => by
    simp only [capArgs] at h
    cases h1 : capArg H p x with
    | none => simp [h1] at h
    | some r =>
    obtain ⟨z, p1⟩ := r
    simp only [h1] at h
    cases h2 : capArgs H p1 xs with
    | none => simp [h2] at h
    | some r2 =>
    obtain ⟨l, p2⟩ := r2
    simp only [h2] at h
    injection h with h; injection h with e1 e2; subst e2
    rw [ptrIds_cons_mem]
    rcases capArgs_roots h2 hy with h | h
    · rcases capArg_roots h1 h with h | h
      · exact .inl h
      · exact .inr (.inl h)
    · exact .inr (.inr h)
theorem prepArgs_roots {own : Nat → Bool} : ∀ {xs zs : List AVal} {p q : Prep} {k : Nat}, prepArgs H own p k xs = some (zs, q) → ∀ {y : Nat}, y ∈ q.roots → y ∈ p.roots ∨ y ∈ rootIds own k xs
  | [], zs, p, q, k, h, y, hy => by
    simp only [prepArgs] at h
    injection h with h; injection h with e1 e2; subst e2; exact .inl hy
  | x :: xs, zs, p, q, k, h, y, hy => by
    simp only [prepArgs] at h
    cases h1 : prepArg H (own k) p x with
    | none => simp [h1] at h
    | some r =>
    obtain ⟨z, p1⟩ := r
    simp only [h1] at h
    cases h2 : prepArgs H own p1 (k + 1) xs with
    | none => simp [h2] at h
    | some r2 =>
    obtain ⟨l, p2⟩ := r2
    simp only [h2] at h
    injection h with h; injection h with e1 e2; subst e2
    have hrest : ∀ {y}, y ∈ rootIds own (k + 1) xs → y ∈ rootIds own k (x :: xs) := fun {y} hy => by
      simp only [rootIds]
      cases x with
      | ptr => exact List.mem_cons_of_mem _ hy
      | sl => cases own k <;> first | exact List.mem_cons_of_mem _ hy | exact hy
      | agg => simp only [app_eq]; exact List.mem_append_right _ hy
      | fn => simp only [app_eq]; exact List.mem_append_right _ hy
      | _ => exact hy
    rcases prepArgs_roots h2 hy with h | h
    · have hcap : ∀ {z' : AVal} {q' : Prep}, capArg H p x = some (z', q') → q' = p1 → y ∈ p.roots ∨ y ∈ ptrIds [x] := fun e e2 => capArg_roots e (e2 ▸ h)
      unfold prepArg at h1
      cases x with
      | v u =>
        simp only at h1
        injection h1 with h1; injection h1 with e1 e2; subst e2; exact .inl h
      | sl id off n g =>
        cases ho : own k with
        | false =>
          rw [ho] at h1
          rcases hcap h1 rfl with h | h
          · exact .inl h
          · cases h
        | true =>
          rw [ho] at h1
          simp only at h1
          split at h1
          · split at h1
            · cases hi : idxIn p.roots id with
              | mk j r =>
                simp only [hi] at h1
                injection h1 with h1; injection h1 with e1 e2; subst e2
                rcases idxIn_mem hi h with h | h
                · exact .inl h
                · subst h
                  refine .inr ?_
                  simp only [rootIds, ho]
                  exact List.mem_cons_self
            · cases h1
          · cases h1
      | agg cs =>
        simp only at h1
        cases h3 : capArgs H p cs with
        | none => simp [h3] at h1
        | some r3 =>
        simp only [h3] at h1
        injection h1 with h1; injection h1 with e1 e2; subst e2
        rcases capArgs_roots h3 h with h | h
        · exact .inl h
        · refine .inr ?_
          simp only [rootIds, app_eq]
          exact List.mem_append_left _ h
      | fn f cs =>
        simp only at h1
        cases h3 : capArgs H p cs with
        | none => simp [h3] at h1
        | some r3 =>
        simp only [h3] at h1
        injection h1 with h1; injection h1 with e1 e2; subst e2
        rcases capArgs_roots h3 h with h | h
        · exact .inl h
        · refine .inr ?_
          simp only [rootIds, app_eq]
          exact List.mem_append_left _ h
      | ptr id i c g =>
        rcases hcap h1 rfl with h | h
        · exact .inl h
        · refine .inr ?_
          have : y = id := by simpa [ptrIds_cons, show ptrIds [] = [] from rfl] using h
          subst this
          simp only [rootIds]
          exact List.mem_cons_self
      | _ =>
        rcases hcap h1 rfl with h | h
        · exact .inl h
        · cases h
    · exact .inr (hrest h)

theorem putBack_like : ∀ {roots : List Nat} {H out H1 : List ABlk}, putBack H roots out = some H1 → ∀ {id : Nat}, id ∉ roots → LikeAt H H1 id
  | [], H, [], H1, h, id, _ => by
    simp only [putBack] at h
    injection h with h; subst h; exact .refl _ _
  | [], H, c :: out, H1, h, id, _ => by
    simp only [putBack] at h
    injection h with h; subst h; exact .app _ _ _
  | r :: roots, H, [], H1, h, id, _ => by simp [putBack] at h
  | r :: roots, H, c :: out, H1, h, id, hn => by
    simp only [putBack] at h
    simp only [List.mem_cons, not_or] at hn
    exact (LikeAt.modAt H _ (fun e => hn.1 e.symm)).trans (putBack_like h hn.2)
theorem settle_like (held : Bool) (H : List ABlk) : ∀ (lent : List Nat) (id : Nat), LikeAt H (settle lent held H) id
  | [], id => .refl _ _
  | l :: lent, id => by
    have ih := settle_like held H lent id
    rw [settle_cons]
    split
    · exact ih.trans (.disown _ _ _)
    · exact ih
theorem callA_like {f : FuncId} {args : List AVal} {x : AVal} (he : (callA E f args H).run = some (x, H1)) {id : Nat} (hid : id ∉ rootIds (E.own f) 0 args) : LikeAt H H1 id := by
  unfold callA at he
  cases hpr : prepArgs H (E.own f) { roots := [], lent := [] } 0 args with
  | none => rw [hpr] at he; cases he
  | some q =>
  obtain ⟨args2, p⟩ := q
  rw [hpr] at he
  simp only at he
  have hroot : id ∉ p.roots := fun h => by
    rcases prepArgs_roots hpr h with h | h
    · cases h
    · exact hid h
  split at he
  · obtain ⟨⟨r, out⟩, _, he⟩ := DT.run_bind_some he
    simp only at he
    cases hpb : putBack H p.roots out with
    | none => rw [hpb] at he; cases he
    | some H2 =>
    rw [hpb] at he
    simp only [DT.run_ret] at he
    injection he with he; injection he with e1 e2; subst e2
    exact (putBack_like hpb hroot).trans (settle_like _ _ _ _)
  · cases he

theorem evalOp_touch {o : PO} (ho : isHeavy o = true) {x : AVal} (he : (evalOp E a H o).run = some (x, H1)) {id : Nat} (hid : id ∉ touchOf E a o) : LikeAt H H1 id := by
  cases o with
  | alloc z =>
    simp only [evalOp, DT.run_ret] at he
    injection he with he; injection he with e1 e2; subst e2
    exact .app _ _ _
  | box y =>
    simp only [evalOp] at he
    cases hf : freezeCells H (aCells (evalA E a y)) with
    | none => rw [hf] at he; cases he
    | some p =>
    rw [hf] at he
    simp only [DT.run_ret] at he
    injection he with he; injection he with e1 e2; subst e2
    exact (freezeCells_like hf id).trans (.app _ _ _)
  | bslice et es n z parts =>
    simp only [evalOp] at he
    split at he
    · rename_i cs _
      cases hf : freezeCells H cs with
      | none => rw [hf] at he; cases he
      | some p =>
      rw [hf] at he
      simp only [DT.run_ret] at he
      injection he with he; injection he with e1 e2; subst e2
      exact (freezeCells_like hf id).trans (.app _ _ _)
    · cases he
  | mksl et es bytes z l c =>
    simp only [evalOp] at he
    split at he
    · obtain ⟨_, h⟩ := DT.run_guard_some he
      simp only [DT.run_ret] at h
      injection h with h; injection h with e1 e2; subst e2
      exact .app _ _ _
    · cases he
  | store n p y =>
    have hid' : id ∉ idsOf (evalA E a p) := hid
    simp only [evalOp] at he
    revert he hid'
    cases evalA E a p with
    | ptr l i c g =>
      intro he hid'
      simp only at he
      cases hf : freezeCells H (aCells (evalA E a y)) with
      | none => rw [hf] at he; cases he
      | some q =>
      rw [hf] at he
      simp only at he
      split at he
      · obtain ⟨_, he⟩ := DT.run_guard_some he
        simp only [DT.run_ret] at he
        injection he with he; injection he with e1 e2; subst e2
        exact (freezeCells_like hf id).trans (.setAt _ _ fun e => hid' (by simp [idsOf, e]))
      · cases he
    | _ => intro he _; cases he
  | append et es bytes s y =>
    have hid' : id ∉ idsOf (evalA E a s) := hid
    have he' : (appendA et es bytes (evalA E a s) (evalA E a y) H).run = some (x, H1) := he
    revert he' hid'
    generalize evalA E a s = u
    intro hid' he
    unfold appendA at he
    split at he
    · split at he
      · rcases DT.run_ite_some he with ⟨_, h⟩ | ⟨_, h⟩
        · simp only [DT.run_ret] at h
          injection h with h; injection h with e1 e2; subst e2; exact .refl _ _
        · obtain ⟨_, h⟩ := DT.run_guard_some h
          simp only [DT.run_ret] at h
          injection h with h; injection h with e1 e2; subst e2; exact .app _ _ _
      · split at he
        · split at he
          · rcases DT.run_ite_some he with ⟨_, h⟩ | ⟨_, h⟩
            · simp only [DT.run_ret] at h
              injection h with h; injection h with e1 e2; subst e2; exact .refl _ _
            · obtain ⟨_, h⟩ := DT.run_guard_some h
              simp only [DT.run_ret] at h
              injection h with h; injection h with e1 e2; subst e2
              exact .setAt _ _ fun e => hid' (by simp [idsOf, e])
          · cases he
        · cases he
      · cases he
    · cases he
  | copy es d s =>
    have hid' : id ∉ idsOf (evalA E a d) := hid
    have he' : copyA es (evalA E a d) (evalA E a s) H = some (x, H1) := opt2_run he
    revert he' hid'
    generalize evalA E a d = u
    intro hid' he
    unfold copyA at he
    split at he
    · split at he
      · split at he
        · split at he
          · injection he with he; injection he with e1 e2; subst e2
            exact .setAt _ _ fun e => hid' (by simp [idsOf, e])
          · cases he
        · cases he
      · cases he
    · cases he
  | call f args => exact callA_like he hid
  | calld y args =>
    have hid' : id ∉ touchOf E a (.calld y args) := hid
    simp only [evalOp] at he
    simp only [touchOf] at hid'
    revert he hid'
    cases evalA E a y with
    | fn f caps => intro he hid'; exact callA_like he hid'
    | _ => intro he; cases he
  | bad => cases he
  | _ => cases ho
end
end Go.Ev

