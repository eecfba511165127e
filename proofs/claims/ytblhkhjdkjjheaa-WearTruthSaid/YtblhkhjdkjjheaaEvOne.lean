/- Each operation's soundness, in one (own work). -/
import Derived.Test.YtblhkhjdkjjheaaEvCall
set_option linter.unusedVariables false
set_option linter.unusedSimpArgs false
set_option linter.unnecessarySimpa false
set_option linter.unusedSectionVars false
namespace Go.Ev
open Go
section
variable {W : Nat → Prop} {ρ : Rho} {H H' : List ABlk} {F : Fz} {w : World} {E : Env} {o : Oper} {ac : Act} {a : List AVal} {x : AVal}

theorem bad_run {α : Prop} (h : (evalOp E a H .bad).run = some (x, H')) : α := by cases h

theorem sound_cgen (hA : ARel ρ H F w a ac.tmps) (hH : HRel W ρ H F w) (hG : GOk E F w) (hs : ∀ cs b, o.op ≠ .select cs b) (he : (evalOp E a H (cGen o)).run = some (x, H')) : OpGives E.P o ac w (Post W ρ H F w x H') := by
  unfold cGen at he
  cases hts : tmpsOf o.op.operands.toList with
  | none => rw [hts] at he; exact bad_run he
  | some ts => rw [hts] at he; exact sound_gen hA hH hG hts hs he

theorem szT_pos {P : Program} {t : TypeId} (h : szT P t ≠ 0) : ∃ i, P.info? t = some i ∧ szT P t = i.size ∧ i.size ≠ 0 := by
  cases hi : P.info? t with
  | none => simp [szT, hi] at h
  | some i => exact ⟨i, rfl, by simp [szT, hi], by simpa [szT, hi] using h⟩

theorem arr_of_list {α : Type} {x : Array α} {l : List α} (h : x.toList = l) : x = l.toArray := by rw [← h]
theorem args2 {P : Program} (l : List Operand) (r : List TypeId) : (∃ s y t u, l = [s, y] ∧ r = [t, u]) ∨ (cAppend P l r = .bad ∧ cCopy P l r = .bad) := by
  rcases l with _ | ⟨s, _ | ⟨y, _ | ⟨_, _⟩⟩⟩ <;> rcases r with _ | ⟨t, _ | ⟨u, _ | ⟨_, _⟩⟩⟩ <;> first | exact .inr ⟨rfl, rfl⟩ | exact .inl ⟨_, _, _, _, rfl, rfl⟩
theorem args1 {P : Program} {o : Oper} (l : List Operand) (r : List TypeId) : (∃ y t, l = [y] ∧ r = [t]) ∨ cLen P o l r = .bad := by
  rcases l with _ | ⟨y, _ | ⟨_, _⟩⟩ <;> rcases r with _ | ⟨t, _ | ⟨_, _⟩⟩ <;> first | exact .inr rfl | exact .inl ⟨_, _, rfl, rfl⟩
set_option maxHeartbeats 1000000 in
theorem op_sound (hA : ARel ρ H F w a ac.tmps) (hH : HRel W ρ H F w) (hG : GOk E F w) (hcalls : ∀ f, FnOk E.P E.G f (E.call f))
    (he : (evalOp E a H (cOp E.P o)).run = some (x, H')) : OpGives E.P o ac w (Post W ρ H F w x H') := by
  have hgen : (∀ cs b, o.op ≠ .select cs b) → (evalOp E a H (cGen o)).run = some (x, H') → OpGives E.P o ac w (Post W ρ H F w x H') := fun hs h => sound_cgen hA hH hG hs h
  unfold cOp at he
  cases ho : o.op with
  | move y => simp only [ho] at he; exact sound_mv hA hH hG (.inl ho) he
  | assign y => simp only [ho] at he; exact sound_mv hA hH hG (.inr ho) he
  | nilCheck y => simp only [ho] at he; exact sound_nilck hA hH hG ho he
  | pick c y z => simp only [ho] at he; exact sound_pick hA hH hG ho he
  | alloc t =>
    simp only [ho] at he
    cases hz : zeT E.P t with
    | none => simp only [hz] at he; exact bad_run he
    | some z => simp only [hz] at he; exact sound_alloc hH ho hz he
  | box t y => simp only [ho] at he; exact sound_box hA hH hG ho he
  | build t ps =>
    simp only [ho] at he
    cases hz : zeT E.P t with
    | none => simp only [hz] at he; exact bad_run he
    | some z =>
    simp only [hz] at he
    cases hc : cParts E.P t ps.toList with
    | none => simp only [hc] at he; exact bad_run he
    | some l =>
    simp only [hc] at he
    split at he
    · rename_i hall; exact sound_build hA hH hG ho hz hc hall he
    · exact bad_run he
  | buildSlice t n ps =>
    simp only [ho] at he
    cases hu : E.P.underlying t with
    | none => simp only [hu] at he; exact bad_run he
    | some u =>
    cases u with
    | slice e =>
      simp only [hu] at he
      cases hz : zeT E.P e with
      | none => simp only [hz] at he; exact bad_run he
      | some z =>
      simp only [hz] at he
      cases hc : cParts E.P t ps.toList with
      | none => simp only [hc] at he; exact bad_run he
      | some l =>
      simp only [hc] at he
      split at he
      · rename_i hcond
        simp only [Bool.and_eq_true] at hcond
        exact sound_bslice hA hH hG ho hu hz hc (Nat.le_of_ble_eq_true hcond.1.1) (Nat.eq_of_beq_eq_true hcond.1.2) (Nat.le_of_ble_eq_true hcond.2) he
      · exact bad_run he
    | _ => simp only [hu] at he; exact bad_run he
  | load t y =>
    simp only [ho] at he
    cases hu : E.P.underlying t with
    | none => simp only [hu] at he; exact bad_run he
    | some u => simp only [hu] at he; exact sound_load hA hH hG ho (by rw [hu]; simp) he
  | store t y z =>
    simp only [ho] at he
    split at he
    · exact bad_run he
    · rename_i h0
      exact sound_store hA hH hG ho (fun h => h0 (by rw [h]; rfl)) he
  | fieldAddr s y f =>
    simp only [ho] at he
    cases hu : E.P.underlying s with
    | none => simp only [hu] at he; exact bad_run he
    | some u =>
    cases u with
    | struct fs =>
      simp only [hu] at he
      cases hf : fs[f]? with
      | none => simp only [hf] at he; exact bad_run he
      | some fd =>
      simp only [hf] at he
      split at he
      · exact bad_run he
      · rename_i h0
        exact sound_fld hA hH hG ho hu hf (fun h => h0 (by rw [h]; rfl)) he
    | _ => simp only [hu] at he; exact bad_run he
  | indexAddr t y z =>
    simp only [ho] at he
    cases hu : E.P.underlying t with
    | none => simp only [hu] at he; exact bad_run he
    | some u =>
    cases u with
    | array n e =>
      simp only [hu] at he
      split at he
      · rename_i hi
        obtain ⟨ei, hei⟩ := Option.isSome_iff_exists.1 hi
        exact sound_idxA hA hH hG ho hu hei he
      · exact bad_run he
    | slice e =>
      simp only [hu] at he
      split at he
      · rename_i hi
        obtain ⟨ei, hei⟩ := Option.isSome_iff_exists.1 hi
        exact sound_idxS hA hH hG ho hu hei he
      · exact bad_run he
    | _ => simp only [hu] at he; exact bad_run he
  | slice t y lo hi mx =>
    simp only [ho] at he
    cases hu : E.P.underlying t with
    | none => simp only [hu] at he; exact bad_run he
    | some u =>
    cases u with
    | slice e =>
      cases mx with
      | some _ => simp only [hu] at he; exact bad_run he
      | none =>
      simp only [hu] at he
      split at he
      · rename_i hi
        obtain ⟨ei, hei⟩ := Option.isSome_iff_exists.1 hi
        exact sound_slice hA hH hG ho hu hei he
      · exact bad_run he
    | string =>
      cases mx with
      | some _ => simp only [hu] at he; exact bad_run he
      | none => simp only [hu] at he; exact hgen (fun cs b e => by rw [ho] at e; cases e) he
    | _ => simp only [hu] at he; exact bad_run he
  | makeSlice t l c =>
    simp only [ho] at he
    cases hu : E.P.underlying t with
    | none => simp only [hu] at he; exact bad_run he
    | some u =>
    cases u with
    | slice e =>
      simp only [hu] at he
      cases hz : zeT E.P e with
      | none => simp only [hz] at he; exact bad_run he
      | some z =>
      simp only [hz] at he
      split at he
      · rename_i hcond
        simp only [Bool.and_eq_true] at hcond
        exact sound_mksl hA hH hG ho hu hz (Nat.eq_of_beq_eq_true hcond.1) (Nat.le_of_ble_eq_true hcond.2) he
      · exact bad_run he
    | _ => simp only [hu] at he; exact bad_run he
  | makeFunc fr first caps =>
    cases fr with
    | func f =>
      simp only [ho] at he
      split at he
      · rename_i hf; exact sound_mkfn hA hH hG ho hf he
      · exact bad_run he
    | _ => simp only [ho] at he; exact bad_run he
  | extract y i => simp only [ho] at he; exact sound_ext hA hH hG ho he
  | field t y f =>
    simp only [ho] at he
    cases hu : E.P.underlying t with
    | none => simp only [hu] at he; exact bad_run he
    | some u =>
    cases u with
    | struct fs =>
      simp only [hu] at he
      cases hf : fs[f]? with
      | none => simp only [hf] at he; exact bad_run he
      | some fd =>
      simp only [hf] at he
      split at he
      · rename_i hs; exact sound_field hA hH hG ho hu hf hs he
      · exact bad_run he
    | _ => simp only [hu] at he; exact bad_run he
  | index t y z =>
    simp only [ho] at he
    cases hu : E.P.underlying t with
    | none => simp only [hu] at he; exact bad_run he
    | some u =>
    cases u with
    | array n e =>
      simp only [hu] at he
      split at he
      · rename_i hs; exact sound_index hA hH hG ho hu hs he
      · exact bad_run he
    | string => simp only [hu] at he; exact hgen (fun cs b e => by rw [ho] at e; cases e) he
    | _ => simp only [hu] at he; exact bad_run he
  | binOp op t y z u0 =>
    have hg : (evalOp E a H (cGen o)).run = some (x, H') → OpGives E.P o ac w (Post W ρ H F w x H') := hgen (fun cs b e => by rw [ho] at e; cases e)
    have hrest : (evalOp E a H (cEqn E.P o op t y z)).run = some (x, H') → OpGives E.P o ac w (Post W ρ H F w x H') := fun he => by
      unfold cEqn at he
      cases op with
      | eql =>
        by_cases hag : agT E.P t = true
        · simp only [hag, if_true] at he
          cases hf : flatE E.P 9 t with
          | none => simp only [hf] at he; exact bad_run he
          | some fl =>
          simp only [hf] at he
          by_cases hgt : E.P.eqGuardType E.P.depth t = true
          · simp only [hgt, if_true] at he; exact bad_run he
          · simp only [hgt, if_false] at he; exact sound_eqc hA hH hG ho (.inl ⟨rfl, rfl⟩) hag hf (by simpa using hgt) he
        simp only [hag, if_false] at he
        cases hts : tmpsOf o.op.operands.toList with
        | none => simp only [hts] at he; exact bad_run he
        | some ts => simp only [hts] at he; exact sound_eqn hA hH hG ho (.inl ⟨rfl, rfl⟩) hts he
      | neq =>
        by_cases hag : agT E.P t = true
        · simp only [hag, if_true] at he
          cases hf : flatE E.P 9 t with
          | none => simp only [hf] at he; exact bad_run he
          | some fl =>
          simp only [hf] at he
          by_cases hgt : E.P.eqGuardType E.P.depth t = true
          · simp only [hgt, if_true] at he; exact bad_run he
          · simp only [hgt, if_false] at he; exact sound_eqc hA hH hG ho (.inr ⟨rfl, rfl⟩) hag hf (by simpa using hgt) he
        simp only [hag, if_false] at he
        cases hts : tmpsOf o.op.operands.toList with
        | none => simp only [hts] at he; exact bad_run he
        | some ts => simp only [hts] at he; exact sound_eqn hA hH hG ho (.inr ⟨rfl, rfl⟩) hts he
      | _ => exact hg he
    simp only [ho] at he
    cases hu : E.P.underlying t with
    | none => simp only [hu] at he; exact hrest he
    | some u =>
    cases u with
    | int k =>
      simp only [hu] at he
      cases op <;> first | exact sound_bin hA hH hG ho he | exact hg he
    | _ => simp only [hu] at he; exact hrest he
  | unOp op t y =>
    have hg : (evalOp E a H (cGen o)).run = some (x, H') → OpGives E.P o ac w (Post W ρ H F w x H') := hgen (fun cs b e => by rw [ho] at e; cases e)
    simp only [ho] at he
    cases op with
    | not => exact sound_not hA hH hG ho he
    | neg =>
      cases hu : E.P.underlying t with
      | none => simp only [hu] at he; exact hg he
      | some u =>
      cases u with
      | int k => simp only [hu] at he; exact sound_neg hA hH hG ho he
      | _ => simp only [hu] at he; exact hg he
    | _ => exact hg he
  | call c =>
    have hg : (evalOp E a H (cGen o)).run = some (x, H') → OpGives E.P o ac w (Post W ρ H F w x H') := hgen (fun cs b e => by rw [ho] at e; cases e)
    simp only [ho] at he
    cases hc : c.callee with
    | value y =>
      simp only [hc] at he
      cases y with
      | func f => exact sound_call hA hH hG hcalls ho hc he
      | _ => exact sound_calld hA hH hG hcalls ho hc he
    | invoke r m => simp only [hc] at he; exact bad_run he
    | builtin b =>
      simp only [hc] at he
      cases b with
      | append =>
        rcases args2 c.args.toList c.argTypes.toList with ⟨s, y, t, u, h1, h2⟩ | h
        · rw [h1, h2] at he
          simp only [cAppend] at he
          cases hu : E.P.underlying t with
          | none => simp only [hu] at he; exact bad_run he
          | some uu =>
          cases uu with
          | slice e =>
            simp only [hu] at he
            split at he
            · rename_i hcond
              simp only [Bool.and_eq_true, Bool.not_eq_true'] at hcond
              obtain ⟨⟨⟨⟨c1, c2⟩, c3⟩, c4⟩, c5⟩ := hcond
              have htu := Nat.eq_of_beq_eq_true c5
              subst htu
              obtain ⟨ei, hei, hs, _⟩ := szT_pos (P := E.P) (t := e) (Nat.pos_iff_ne_zero.1 (Nat.le_of_ble_eq_true c1))
              have hb : byT E.P e = ei.bytes := by simp [byT, hei]
              unfold zeFits at c3
              simp only [hei] at c3
              cases hz : ei.zero with
              | none => simp [hz] at c3
              | some zv =>
              simp only [hz] at c3
              exact sound_append hA hH hG ho hc (arr_of_list h1) (arr_of_list h2) hu hei hz (Nat.eq_of_beq_eq_true c3) (hs ▸ Nat.le_of_ble_eq_true c1) (hb ▸ Nat.le_of_ble_eq_true c2) (Nat.ne_of_beq_eq_false c4) he
            · exact bad_run he
          | _ => simp only [hu] at he; exact bad_run he
        · rw [h.1] at he; exact bad_run he
      | copy =>
        rcases args2 c.args.toList c.argTypes.toList with ⟨s, y, t, u, h1, h2⟩ | h
        · rw [h1, h2] at he
          simp only [cCopy] at he
          cases hu : E.P.underlying t with
          | none => simp only [hu] at he; exact bad_run he
          | some uu =>
          cases uu with
          | slice e =>
            simp only [hu] at he
            split at he
            · rename_i hi
              obtain ⟨ei, hei⟩ := Option.isSome_iff_exists.1 hi
              exact sound_copy hA hH hG ho hc (arr_of_list h1) (arr_of_list h2) hu hei he
            · exact bad_run he
          | _ => simp only [hu] at he; exact bad_run he
        · rw [h.2] at he; exact bad_run he
      | len =>
        rcases args1 c.args.toList c.argTypes.toList with ⟨y, t, h1, h2⟩ | h
        · rw [h1, h2] at he
          simp only [cLen] at he
          cases hu : E.P.underlying t with
          | none => simp only [hu] at he; exact bad_run he
          | some uu =>
          cases uu with
          | slice e => simp only [hu] at he; exact sound_len hA hH hG ho hc (arr_of_list h1) (arr_of_list h2) hu he
          | array n e => simp only [hu] at he; exact sound_len_arr hH ho hc (arr_of_list h1) (arr_of_list h2) hu he
          | string => simp only [hu] at he; exact hg he
          | _ => simp only [hu] at he; exact bad_run he
        · rw [h] at he; exact bad_run he
      | max => exact hg he
      | min => exact hg he
      | _ => exact bad_run he
  | convert t u y => simp only [ho] at he; exact hgen (fun cs b e => by rw [ho] at e; cases e) he
  | makeInterface t y => simp only [ho] at he; exact hgen (fun cs b e => by rw [ho] at e; cases e) he
  | typeAssert t y u b => simp only [ho] at he; exact hgen (fun cs b e => by rw [ho] at e; cases e) he
  | _ => simp only [ho] at he; exact bad_run he

theorem plain_freeze : ∀ {cs : List AVal}, allB plainC cs = true → freezeCells H cs = some (cs, H)
  | [], _ => rfl
  | c :: cs, h => by
    have e : allB plainC (c :: cs) = Bool.rec false (allB plainC cs) (plainC c) := rfl
    rw [e] at h
    cases hc : plainC c with
    | false => rw [hc] at h; cases h
    | true =>
      rw [hc] at h
      have ih := plain_freeze h
      have h1 : freezeCell H c = some (c, H) := by
        unfold plainC at hc
        unfold freezeCell
        cases c with
        | v u => simp only at hc ⊢; rw [hc]
        | tree => rfl
        | fn f caps => cases caps with
          | nil => rfl
          | cons => cases hc
        | _ => cases hc
      simp only [freezeCells, h1, ih]

/-- a built slice that stays as it is -/
theorem sound_tslice {e es n : Nat} {z : List AVal} {l : List (Nat × Nat × Arg)} (hb : ∀ {x : AVal} {H' : List ABlk}, (evalOp E a H (.bslice e es n z l)).run = some (x, H') → OpGives E.P o ac w (Post W ρ H F w x H'))
    (he : (evalOp E a H (.tslice es n z l)).run = some (x, H')) : OpGives E.P o ac w (Post W ρ H F w x H') := by
  simp only [evalOp] at he
  cases hf : fillA z (mapL (fun p => (p.1, p.2.1, evalA E a p.2.2)) l) with
  | none => rw [hf] at he; cases he
  | some cs =>
  rw [hf] at he
  simp only at he
  cases hp : allB plainC cs with
  | false => rw [hp] at he; cases he
  | true =>
  rw [hp] at he
  simp only [DT.run_ret] at he
  injection he with he; injection he with e1 e2; subst e1 e2
  have hrun : (evalOp E a H (.bslice e es n z l)).run = some (.sl H.length 0 n 0, H ++ [{ et := e, es, elems := chunks es n cs, own := true, dead := false, g := 0 }]) := by
    simp only [evalOp, hf, plain_freeze hp, DT.run_ret, len_eq, newBlk, app_eq]
  intro next Q hn
  refine hb hrun next Q fun x' w' ⟨ρ', F', a1, a2, a3⟩ => hn x' w' ?_
  generalize hblk : ({ et := e, es, elems := chunks es n cs, own := true, dead := false, g := 0 } : ABlk) = blk at a1 a2 a3
  have hN : (H ++ [blk])[H.length]? = some blk := by simp
  have hd : blk.dead = false := by rw [← hblk]
  obtain ⟨F2, b1, b2, b3⟩ := a2.disown H.length blk hN hd
  have hat : blkAt (H ++ [blk]) H.length 0 = some blk := by
    unfold blkAt
    rw [nth_eq, hN, ← hblk]
    rfl
  have htree := treeOf_ok a2 hat a3 b1.more b3
  have hlow : ∀ (id : Nat) b, H[id]? = some b → ((H ++ [blk]).set H.length { blk with own := false })[id]? = some b := fun id b h => by
    have := (List.getElem?_eq_some_iff.1 h).1
    rw [List.getElem?_set_ne (by omega), List.getElem?_append_left this]
    exact h
  have hext : ∀ (id : Nat) b, H[id]? = some b → ρ' id = ρ id := fun id b h => by
    obtain ⟨b', h1, _, _, h4⟩ := a1.heap id b h
    rw [List.getElem?_append_left (List.getElem?_eq_some_iff.1 h).1] at h1
    have : b' = b := Option.some.inj (h1.symm.trans h)
    subst this
    exact (h4 rfl).1
  refine ⟨ρ', F2, ⟨a1.ext, fun id b h => ⟨b, h, rfl, Nat.le_refl _, fun _ => ⟨hext id b h, rfl, Nat.le_refl _⟩⟩, fun b o h => b1.more b o (a1.more b o h), fun b o h => ?_, fun id b h hn => absurd rfl (hn b h)⟩, ?_, ?_⟩
  · rcases b1.new b o h with h | h
    · exact a1.new b o h
    · exact .inr h
  · exact b2.pull (fun id => id) (fun id b h hd => ⟨hlow id b h, rfl⟩) fun _ _ _ _ _ _ _ _ h => h
  · have e : treeOf blk 0 n = .tree es n fun i => getRow (chunks es n cs) (0 + i) := by rw [← hblk]; rfl
    rw [← e]
    exact .val (.cell (.mem htree))

theorem op_soundT (tr : Nat) (hA : ARel ρ H F w a ac.tmps) (hH : HRel W ρ H F w) (hG : GOk E F w) (hcalls : ∀ f, FnOk E.P E.G f (E.call f))
    (he : (evalOp E a H (toTree tr (cOp E.P o))).run = some (x, H')) : OpGives E.P o ac w (Post W ρ H F w x H') := by
  have hs : ∀ {x : AVal} {H' : List ABlk}, (evalOp E a H (cOp E.P o)).run = some (x, H') → OpGives E.P o ac w (Post W ρ H F w x H') := fun h => op_sound hA hH hG hcalls h
  revert hs he
  generalize cOp E.P o = q
  intro he hs
  cases q with
  | bslice e es n z l =>
    simp only [toTree] at he
    split at he
    · exact hs he
    · exact sound_tslice hs he
  | _ => exact hs he
end
end Go.Ev

