/- What an operation hangs on (own work). -/
import Derived.Test.YtblhkhjdkjjheaaEvMono
set_option linter.unusedVariables false
set_option linter.unusedSimpArgs false
set_option linter.unnecessarySimpa false
set_option linter.unusedSectionVars false
namespace Go.Ev
open Go
section
variable {E : Env} {a a' : List AVal} {H H' : List ABlk}

/-- two lists of slots that agree at some places -/
def Agr (a a' : List AVal) (l : List Nat) : Prop := ∀ t ∈ l, a[t]? = a'[t]?
theorem Agr.left {l r : List Nat} (h : Agr a a' (l ++ r)) : Agr a a' l := fun t ht => h t (List.mem_append_left _ ht)
theorem Agr.right {l r : List Nat} (h : Agr a a' (l ++ r)) : Agr a a' r := fun t ht => h t (List.mem_append_right _ ht)
theorem Agr.t {t : Nat} (h : a[t]? = a'[t]?) : evalA E a (.t t) = evalA E a' (.t t) := by rw [evalA_t, evalA_t, h]
theorem Agr.arg {x : Arg} (h : Agr a a' (aSlots x)) : evalA E a x = evalA E a' x := by
  cases x with
  | t n => exact Agr.t (h n (by simp [aSlots]))
  | c x => rfl
  | g n => rfl
theorem Agr.opt {x : Option Arg} (h : Agr a a' (oSlots x)) : x.map (evalA E a) = x.map (evalA E a') := by
  cases x with
  | none => rfl
  | some x => exact congrArg some (Agr.arg h)
theorem Agr.args {xs : List Arg} (h : Agr a a' (xs.flatMap aSlots)) : mapL (evalA E a) xs = mapL (evalA E a') xs := by
  rw [mapL_eq, mapL_eq]
  refine List.map_congr_left fun x hx => Agr.arg fun t ht => h t (List.mem_flatMap.2 ⟨x, hx, ht⟩)
theorem Agr.parts {ps : List (Nat × Nat × Arg)} (h : Agr a a' (ps.flatMap fun p => aSlots p.2.2)) : mapL (fun p : Nat × Nat × Arg => (p.1, p.2.1, evalA E a p.2.2)) ps = mapL (fun p => (p.1, p.2.1, evalA E a' p.2.2)) ps := by
  rw [mapL_eq, mapL_eq]
  refine List.map_congr_left fun x hx => ?_
  rw [Agr.arg (E := E) (a := a) (a' := a') fun t ht => h t (List.mem_flatMap.2 ⟨x, hx, ht⟩)]
theorem mapO_congr {α β : Type} {f g : α → Option β} : ∀ {l : List α}, (∀ x ∈ l, f x = g x) → mapO f l = mapO g l
  | [], _ => rfl
  | x :: l, h => by
    have ih := mapO_congr (f := f) (g := g) (l := l) fun y hy => h y (by simp [hy])
    have e1 : ∀ (u : α → Option β), mapO u (x :: l) = Option.rec (motive := fun _ => Option (List β)) none (fun y => Option.rec (motive := fun _ => Option (List β)) none (fun r => some (y :: r)) (mapO u l)) (u x) := fun _ => rfl
    rw [e1, e1, ih, h x (by simp)]
theorem Agr.gen {o : Oper} {ts : List Nat} (h : Agr a a' ts) : genA E a o ts = genA E a' o ts := by
  unfold genA
  rw [mapO_congr fun t ht => by rw [Agr.t (E := E) (h t ht)]]

theorem evalOp_slots (o : PO) (h : Agr a a' (poSlots o)) : evalOp E a H o = evalOp E a' H o := by
  cases o with
  | alloc z => rfl
  | bad => rfl
  | pick c x y => simp only [evalOp, Agr.arg (E := E) h.left.left, Agr.arg (E := E) h.left.right, Agr.arg (E := E) h.right]
  | build z ps => simp only [evalOp, Agr.parts (E := E) h]
  | bslice et es n z ps => simp only [evalOp, Agr.parts (E := E) h]
  | tslice es n z ps => simp only [evalOp, Agr.parts (E := E) h]
  | slice es x lo hi => simp only [evalOp, Agr.arg (E := E) h.left.left, Agr.opt (E := E) h.left.right, Agr.opt (E := E) h.right]
  | mkfn f xs => simp only [evalOp, Agr.args (E := E) h]
  | call f xs => simp only [evalOp, Agr.args (E := E) h]
  | calld x xs => simp only [evalOp, Agr.args (E := E) h.right, Agr.arg (E := E) h.left]
  | gen o ts =>
    have e : genA E a o ts = genA E a' o ts := Agr.gen h
    simp only [evalOp, e]
  | eqn k neg x y o ts => simp only [evalOp, eqnA, Agr.gen (E := E) h.right, Agr.arg (E := E) h.left.left, Agr.arg (E := E) h.left.right]
  | mv x => simp only [evalOp, Agr.arg (E := E) (x := x) h]
  | nilck x => simp only [evalOp, Agr.arg (E := E) (x := x) h]
  | box x => simp only [evalOp, Agr.arg (E := E) (x := x) h]
  | load ks n agg x => simp only [evalOp, Agr.arg (E := E) (x := x) h]
  | fld off x => simp only [evalOp, Agr.arg (E := E) (x := x) h]
  | ext x i => simp only [evalOp, Agr.arg (E := E) (x := x) h]
  | field off n agg x => simp only [evalOp, Agr.arg (E := E) (x := x) h]
  | not x => simp only [evalOp, Agr.arg (E := E) (x := x) h]
  | neg x => simp only [evalOp, Agr.arg (E := E) (x := x) h]
  | len x => simp only [evalOp, Agr.arg (E := E) (x := x) h]
  | _ => simp only [evalOp, Agr.arg (E := E) h.left, Agr.arg (E := E) h.right]

/-- a block as it stands in another heap, but for its owner -/
def Like (b b' : ABlk) : Prop := b'.dead = b.dead ∧ b'.g = b.g ∧ b'.es = b.es ∧ b'.elems = b.elems ∧ b'.et = b.et
def LikeAt (H H' : List ABlk) (id : Nat) : Prop := ∀ b, H[id]? = some b → ∃ b', H'[id]? = some b' ∧ Like b b'
theorem Like.refl (b : ABlk) : Like b b := ⟨rfl, rfl, rfl, rfl, rfl⟩
theorem Like.trans {b c d : ABlk} (h : Like b c) (k : Like c d) : Like b d := ⟨k.1.trans h.1, k.2.1.trans h.2.1, k.2.2.1.trans h.2.2.1, k.2.2.2.1.trans h.2.2.2.1, k.2.2.2.2.trans h.2.2.2.2⟩
theorem LikeAt.refl (H : List ABlk) (id : Nat) : LikeAt H H id := fun b hb => ⟨b, hb, .refl b⟩
theorem LikeAt.trans {H1 H2 H3 : List ABlk} {id : Nat} (h : LikeAt H1 H2 id) (k : LikeAt H2 H3 id) : LikeAt H1 H3 id := fun b hb => by
  obtain ⟨c, hc, h1⟩ := h b hb
  obtain ⟨d, hd, h2⟩ := k c hc
  exact ⟨d, hd, h1.trans h2⟩
theorem LikeAt.blk {id g : Nat} {b : ABlk} (h : LikeAt H H' id) (hb : blkAt H id g = some b) : ∃ b', blkAt H' id g = some b' ∧ Like b b' := by
  obtain ⟨h1, h2, h3⟩ := blkAt_some hb
  obtain ⟨b', k1, k2⟩ := h b h1
  refine ⟨b', ?_, k2⟩
  unfold blkAt
  rw [nth_eq, k1]
  have hd : b'.dead = false := k2.1.trans h2
  have hg : Nat.beq b'.g g = true := by rw [k2.2.1, h3]; exact Nat.beq_refl g
  simp only [hd, hg]

theorem cellsG_like {p : AVal} {n : Nat} {q : Bool × List AVal} (h : ∀ id ∈ idsOf p, LikeAt H H' id) (hl : cellsG H p n = some q) : cellsG H' p n = some q := by
  unfold cellsG at hl ⊢
  cases p with
  | ptr id i c g =>
    simp only at hl ⊢
    cases hb : blkAt H id g with
    | none => simp [hb] at hl
    | some b =>
    obtain ⟨b', h1, h2⟩ := (h id (by simp [idsOf])).blk hb
    simp only [hb] at hl
    rw [h1]
    simp only [h2.2.2.2.1]
    exact hl
  | _ => exact hl

theorem opt_run' {x : Option AVal} {H1 : List ABlk} {r : AVal} (h : (opt x H).run = some (r, H1)) (H' : List ABlk) : H1 = H ∧ (opt x H').run = some (r, H') := by
  obtain ⟨y, h1, h2⟩ := opt_run h
  injection h2 with e1 e2
  subst e1 e2 h1
  exact ⟨rfl, rfl⟩
theorem ret_run' {x r : AVal} {H1 : List ABlk} (h : (DT.ret (x, H)).run = some (r, H1)) (H' : List ABlk) : H1 = H ∧ (DT.ret (x, H')).run = some (r, H') := by
  simp only [DT.run_ret] at h ⊢
  injection h with h; injection h with e1 e2; subst e1 e2
  exact ⟨rfl, rfl⟩
theorem guard_run' {c : Bool} {x r : AVal} {H1 : List ABlk} (h : (DT.guard c (DT.ret (x, H))).run = some (r, H1)) (H' : List ABlk) : H1 = H ∧ (DT.guard c (DT.ret (x, H'))).run = some (r, H') := by
  obtain ⟨h1, h2⟩ := DT.run_guard_some h
  obtain ⟨e, h3⟩ := ret_run' h2 H'
  exact ⟨e, by rw [DT.guard, DT.run_ite, h1]; exact h3⟩
theorem bind_run' {α : Type} {d : DT α} {f : α → AVal} {r : AVal} {H1 : List ABlk} (h : (d.bind fun y => DT.ret (f y, H)).run = some (r, H1)) (H' : List ABlk) : H1 = H ∧ (d.bind fun y => DT.ret (f y, H')).run = some (r, H') := by
  obtain ⟨y, h1, h2⟩ := DT.run_bind_some h
  obtain ⟨e, h3⟩ := ret_run' h2 H'
  exact ⟨e, by rw [DT.run_bind, h1]; exact h3⟩

theorem evalOp_float {o : PO} (ho : isFloat o = true) {x : AVal} {H1 : List ABlk} (he : (evalOp E a H o).run = some (x, H1)) : H1 = H ∧ ∀ H', (∀ id ∈ usesOf E a o, LikeAt H H' id) → (evalOp E a H' o).run = some (x, H') := by
  suffices hs : ∀ H', (∀ id ∈ usesOf E a o, LikeAt H H' id) → H1 = H ∧ (evalOp E a H' o).run = some (x, H') by
    exact ⟨(hs H fun id _ => .refl H id).1, fun H' h => (hs H' h).2⟩
  intro H' hu
  cases o with
  | mv y => exact ret_run' he H'
  | nilck y =>
    simp only [evalOp] at he ⊢
    revert he
    cases evalA E a y <;> intro he <;> first | exact ret_run' he H' | cases he
  | pick c y z =>
    simp only [evalOp] at he ⊢
    revert he
    cases evalA E a c with
    | v u =>
      cases u with
      | bool b =>
        intro he
        simp only [DT.run_ite, DT.run_ret] at he ⊢
        cases b <;> exact ret_run' he H'
      | _ => intro he; cases he
    | _ => intro he; cases he
  | build z ps =>
    simp only [evalOp] at he ⊢
    split at he
    · exact ret_run' he H'
    · cases he
  | tslice es n z ps =>
    simp only [evalOp] at he ⊢
    split at he
    · split at he
      · exact ret_run' he H'
      · cases he
    · cases he
  | load ks n agg y =>
    simp only [evalOp] at he ⊢
    cases hl : cellsG H (evalA E a y) n with
    | none => rw [hl] at he; cases he
    | some q =>
    rw [cellsG_like hu hl]
    rw [hl] at he
    obtain ⟨hg, he⟩ := DT.run_guard_some he
    simp only [hg]
    exact opt_run' he H'
  | fld off y =>
    simp only [evalOp] at he ⊢
    revert he
    cases evalA E a y <;> intro he <;> first | exact ret_run' he H' | cases he
  | idxA n es y i =>
    simp only [evalOp] at he ⊢
    revert he
    cases intOf? (evalA E a i) with
    | none => intro he; cases he
    | some m => cases evalA E a y <;> intro he <;> first | exact guard_run' he H' | cases he
  | idxS es y i =>
    have hu' : ∀ id ∈ idsOf (evalA E a y), LikeAt H H' id := hu
    simp only [evalOp] at he ⊢
    revert he hu'
    cases intOf? (evalA E a i) with
    | none => intro he _; cases he
    | some m =>
      cases evalA E a y with
      | sl id off n g =>
        intro he hu'
        simp only at he ⊢
        cases hb : blkAt H id g with
        | none => rw [hb] at he; cases he
        | some b =>
        obtain ⟨b', h1, h2⟩ := (hu' id (by simp [idsOf])).blk hb
        rw [hb] at he
        rw [h1]
        simp only [h2.2.2.1] at he ⊢
        cases hbe : Nat.beq b.es es with
        | false => rw [hbe] at he; cases he
        | true =>
          rw [hbe] at he
          exact guard_run' he H'
      | tree es' n get =>
        intro he _
        simp only at he ⊢
        cases hbe : Nat.beq es' es with
        | false => rw [hbe] at he; cases he
        | true =>
          rw [hbe] at he
          exact guard_run' he H'
      | _ => intro he _; cases he
  | slice es y lo hi =>
    have hu' : ∀ id ∈ idsOf (evalA E a y), LikeAt H H' id := hu
    simp only [evalOp] at he ⊢
    revert he hu'
    cases evalA E a y with
    | sl id off n g =>
      intro he hu'
      simp only at he ⊢
      cases hb : blkAt H id g with
      | none => rw [hb] at he; cases he
      | some b =>
      obtain ⟨b', h1, h2⟩ := (hu' id (by simp [idsOf])).blk hb
      rw [hb] at he
      rw [h1]
      simp only [h2.2.2.1] at he ⊢
      cases hbe : Nat.beq b.es es with
      | false => rw [hbe] at he; cases he
      | true =>
        rw [hbe] at he
        exact bind_run' (f := fun y : Nat × Nat => .sl id (off + y.1) (y.2 - y.1) g) he H'
    | tree es' n get =>
      intro he _
      simp only at he ⊢
      cases hbe : Nat.beq es' es with
      | false => rw [hbe] at he; cases he
      | true =>
        rw [hbe] at he
        exact bind_run' (f := fun y : Nat × Nat => .tree es' (y.2 - y.1) fun i => get (y.1 + i)) he H'
    | v u =>
      intro he _
      cases u with
      | slice ad n c =>
        cases ad with
        | some _ => cases he
        | none => cases n with
          | succ _ => cases he
          | zero => cases c with
            | succ _ => cases he
            | zero => exact bind_run' (f := fun _ => .v (.slice none 0 0)) he H'
      | _ => cases he
    | _ => intro he _; cases he
  | mkfn f xs =>
    simp only [evalOp] at he ⊢
    split at he
    · exact ret_run' he H'
    · cases he
  | ext y i =>
    simp only [evalOp] at he ⊢
    revert he
    cases evalA E a y <;> intro he <;> first | exact opt_run' he H' | cases he
  | field off n agg y =>
    simp only [evalOp] at he ⊢
    revert he
    cases evalA E a y with
    | agg cs =>
      intro he
      simp only at he ⊢
      split at he
      · exact opt_run' he H'
      · cases he
    | _ => intro he; cases he
  | index ks n es agg y i =>
    simp only [evalOp] at he ⊢
    revert he
    cases intOf? (evalA E a i) with
    | none => cases evalA E a y <;> intro he <;> cases he
    | some m =>
      cases evalA E a y with
      | agg cs =>
        intro he
        simp only at he ⊢
        obtain ⟨h1, h2⟩ := DT.run_guard_some he
        obtain ⟨e, h3⟩ := opt_run' h2 H'
        exact ⟨e, by rw [DT.guard, DT.run_ite, h1]; exact h3⟩
      | _ => intro he; cases he
  | bin op y z => exact bind_run' (f := fun r => r) he H'
  | eqn k neg y z o ts => exact opt_run' he H'
  | eqc neg fl y z =>
    simp only [evalOp] at he ⊢
    revert he
    cases evalA E a y with
    | agg cs =>
      cases evalA E a z with
      | agg ds => intro he; exact guard_run' he H'
      | _ => intro he; cases he
    | _ => intro he; cases he
  | not y =>
    simp only [evalOp] at he ⊢
    revert he
    cases evalA E a y with
    | v u => cases u <;> intro he <;> first | exact ret_run' he H' | cases he
    | _ => intro he; cases he
  | neg y =>
    simp only [evalOp] at he ⊢
    revert he
    cases evalA E a y with
    | v u => cases u <;> intro he <;> first | exact ret_run' he H' | cases he
    | _ => intro he; cases he
  | gen o ts => exact opt_run' he H'
  | len y => exact opt_run' he H'
  | _ => cases ho
end
end Go.Ev

