/- Own work: a part of the proof. -/
import Derived.Test.YtlccibobknidjaaGreatEvCall3
import Derived.LoopN
import Derived.Scope
set_option linter.unusedVariables false
set_option linter.unusedSimpArgs false
set_option linter.unnecessarySimpa false
set_option linter.unusedSectionVars false
namespace Go.Ev
open Go
section
variable {W : Nat → Prop} {ρ : Rho} {H H' : List b8} {F : Fz} {w : World} {E : Env} {o : Oper} {ac : Act} {a : List b7} {x : b7}
theorem j9 {α : Prop} (h : (evalOp E a H .bad).run = some (x, H')) : α := by cases h
theorem md9 (hA : la1 ρ H F w a ac.tmps) (hH : s5 W ρ H F w) (hG : GOk E F w) (hs : ∀ cs b, o.op ≠ .select cs b) (he : (evalOp E a H (wb8 o)).run = some (x, H')) : j6 E.P o ac w (L9 W ρ H F w x H') := by
 unfold wb8 at he
 cases hts : Ea2 o.op.operands.toList with
 | none => rw [hts] at he; exact j9 he
 | some ts => rw [hts] at he; exact Ic7 hA hH hG hts hs he
theorem nc6 {P : Program} {t : TypeId} (h : szT P t ≠ 0) : ∃ i, P.info? t = some i ∧ szT P t = i.size ∧ i.size ≠ 0 := by
 cases hi : P.info? t with
 | none => simp [szT, hi] at h
 | some i => exact ⟨i, rfl, by simp [szT, hi], by simpa [szT, hi] using h⟩
theorem N9 {α : Type} {x : Array α} {l : List α} (h : x.toList = l) : x = l.toArray := by rw [← h]
theorem ub2 {P : Program} (l : List Operand) (r : List TypeId) : (∃ s y t u, l = [s, y] ∧ r = [t, u]) ∨ (Oc3 P l r = .bad ∧ Fd8 P l r = .bad) := by
 rcases l with _ | ⟨s, _ | ⟨y, _ | ⟨_, _⟩⟩⟩ <;> rcases r with _ | ⟨t, _ | ⟨u, _ | ⟨_, _⟩⟩⟩ <;> first | exact .inr ⟨rfl, rfl⟩ | exact .inl ⟨_, _, _, _, rfl, rfl⟩
theorem me4 {P : Program} {o : Oper} (l : List Operand) (r : List TypeId) : (∃ y t, l = [y] ∧ r = [t]) ∨ fe3 P o l r = .bad := by
 rcases l with _ | ⟨y, _ | ⟨_, _⟩⟩ <;> rcases r with _ | ⟨t, _ | ⟨_, _⟩⟩ <;> first | exact .inr rfl | exact .inl ⟨_, _, rfl, rfl⟩
set_option maxHeartbeats 1000000 in
theorem Gd5 (hA : la1 ρ H F w a ac.tmps) (hH : s5 W ρ H F w) (hG : GOk E F w) (hcalls : ∀ f, i5 E.P E.G f (E.call f))
  (he : (evalOp E a H (cOp E.P o)).run = some (x, H')) : j6 E.P o ac w (L9 W ρ H F w x H') := by
 have hgen : (∀ cs b, o.op ≠ .select cs b) → (evalOp E a H (wb8 o)).run = some (x, H') → j6 E.P o ac w (L9 W ρ H F w x H') := fun hs h => md9 hA hH hG hs h
 unfold cOp at he
 cases ho : o.op with
 | move y => simp only [ho] at he; exact Yc2 hA hH hG (.inl ho) he
 | assign y => simp only [ho] at he; exact Yc2 hA hH hG (.inr ho) he
 | nilCheck y => simp only [ho] at he; exact Yc3 hA hH hG ho he
 | pick c y z => simp only [ho] at he; exact md0 hA hH hG ho he
 | alloc t =>
  simp only [ho] at he
  cases hz : zeT E.P t with
  | none => simp only [hz] at he; exact j9 he
  | some z => simp only [hz] at he; exact fc2 hH ho hz he
 | box t y => simp only [ho] at he; exact zd8 hA hH hG ho he
 | build t ps =>
  simp only [ho] at he
  cases hz : zeT E.P t with
  | none => simp only [hz] at he; exact j9 he
  | some z =>
  simp only [hz] at he
  cases hc : Ra7 E.P t ps.toList with
  | none => simp only [hc] at he; exact j9 he
  | some l =>
  simp only [hc] at he
  split at he
  ·rename_i hall; exact Zc0 hA hH hG ho hz hc hall he
  ·exact j9 he
 | buildSlice t n ps =>
  simp only [ho] at he
  cases hu : E.P.underlying t with
  | none => simp only [hu] at he; exact j9 he
  | some u =>
  cases u with
  | slice e =>
   simp only [hu] at he
   cases hz : zeT E.P e with
   | none => simp only [hz] at he; exact j9 he
   | some z =>
   simp only [hz] at he
   cases hc : Ra7 E.P t ps.toList with
   | none => simp only [hc] at he; exact j9 he
   | some l =>
   simp only [hc] at he
   split at he
   ·rename_i hcond
    simp only [Bool.and_eq_true] at hcond
    exact Pc0 hA hH hG ho hu hz hc (Nat.le_of_ble_eq_true hcond.1.1) (Nat.eq_of_beq_eq_true hcond.1.2) (Nat.le_of_ble_eq_true hcond.2) he
   ·exact j9 he
  | _ => simp only [hu] at he; exact j9 he
 | load t y =>
  simp only [ho] at he
  cases hu : E.P.underlying t with
  | none => simp only [hu] at he; exact j9 he
  | some u => simp only [hu] at he; exact md3 hA hH hG ho (by rw [hu]; simp) he
 | store t y z =>
  simp only [ho] at he
  split at he
  ·exact j9 he
  ·rename_i h0
   exact Yc7 hA hH hG ho (fun h => h0 (by rw [h]; rfl)) he
 | fieldAddr s y f =>
  simp only [ho] at he
  cases hu : E.P.underlying s with
  | none => simp only [hu] at he; exact j9 he
  | some u =>
  cases u with
  | struct fs =>
   simp only [hu] at he
   cases hf : fs[f]? with
   | none => simp only [hf] at he; exact j9 he
   | some fd =>
   simp only [hf] at he
   split at he
   ·exact j9 he
   ·rename_i h0
    exact zd5 hA hH hG ho hu hf (fun h => h0 (by rw [h]; rfl)) he
  | _ => simp only [hu] at he; exact j9 he
 | indexAddr t y z =>
  simp only [ho] at he
  cases hu : E.P.underlying t with
  | none => simp only [hu] at he; exact j9 he
  | some u =>
  cases u with
  | array n e =>
   simp only [hu] at he
   split at he
   ·rename_i hi
    obtain ⟨ei, hei⟩ := Option.isSome_iff_exists.1 hi
    exact md1 hA hH hG ho hu hei he
   ·exact j9 he
  | slice e =>
   simp only [hu] at he
   split at he
   ·rename_i hi
    obtain ⟨ei, hei⟩ := Option.isSome_iff_exists.1 hi
    exact md2 hA hH hG ho hu hei he
   ·exact j9 he
  | _ => simp only [hu] at he; exact j9 he
 | slice t y lo hi mx =>
  simp only [ho] at he
  cases hu : E.P.underlying t with
  | none => simp only [hu] at he; exact j9 he
  | some u =>
  cases u with
  | slice e =>
   cases mx with
   | some _ => simp only [hu] at he; exact j9 he
   | none =>
   simp only [hu] at he
   split at he
   ·rename_i hi
    obtain ⟨ei, hei⟩ := Option.isSome_iff_exists.1 hi
    exact Zc3 hA hH hG ho hu hei he
   ·exact j9 he
  | string =>
   cases mx with
   | some _ => simp only [hu] at he; exact j9 he
   | none => simp only [hu] at he; exact hgen (fun cs b e => by rw [ho] at e; cases e) he
  | _ => simp only [hu] at he; exact j9 he
 | makeSlice t l c =>
  simp only [ho] at he
  cases hu : E.P.underlying t with
  | none => simp only [hu] at he; exact j9 he
  | some u =>
  cases u with
  | slice e =>
   simp only [hu] at he
   cases hz : zeT E.P e with
   | none => simp only [hz] at he; exact j9 he
   | some z =>
   simp only [hz] at he
   split at he
   ·rename_i hcond
    simp only [Bool.and_eq_true] at hcond
    exact md5 hA hH hG ho hu hz (Nat.eq_of_beq_eq_true hcond.1) (Nat.le_of_ble_eq_true hcond.2) he
   ·exact j9 he
  | _ => simp only [hu] at he; exact j9 he
 | makeFunc fr first caps =>
  cases fr with
  | func f =>
   simp only [ho] at he
   split at he
   ·rename_i hf; exact md6 hA hH hG ho hf he
   ·exact j9 he
  | _ => simp only [ho] at he; exact j9 he
 | extract y i => simp only [ho] at he; exact zd4 hA hH hG ho he
 | field t y f =>
  simp only [ho] at he
  cases hu : E.P.underlying t with
  | none => simp only [hu] at he; exact j9 he
  | some u =>
  cases u with
  | struct fs =>
   simp only [hu] at he
   cases hf : fs[f]? with
   | none => simp only [hf] at he; exact j9 he
   | some fd =>
   simp only [hf] at he
   split at he
   ·rename_i hs; exact Zc4 hA hH hG ho hu hf hs he
   ·exact j9 he
  | _ => simp only [hu] at he; exact j9 he
 | index t y z =>
  simp only [ho] at he
  cases hu : E.P.underlying t with
  | none => simp only [hu] at he; exact j9 he
  | some u =>
  cases u with
  | array n e =>
   simp only [hu] at he
   split at he
   ·rename_i hs; exact Zc5 hA hH hG ho hu hs he
   ·exact j9 he
  | string => simp only [hu] at he; exact hgen (fun cs b e => by rw [ho] at e; cases e) he
  | _ => simp only [hu] at he; exact j9 he
 | binOp op t y z u0 =>
  have hg : (evalOp E a H (wb8 o)).run = some (x, H') → j6 E.P o ac w (L9 W ρ H F w x H') := hgen (fun cs b e => by rw [ho] at e; cases e)
  have hrest : (evalOp E a H (fe1 E.P o op t y z)).run = some (x, H') → j6 E.P o ac w (L9 W ρ H F w x H') := fun he => by
   unfold fe1 at he
   cases op with
   | eql =>
    by_cases hag : agT E.P t = true
    ·simp only [hag, if_true] at he
     cases hf : S8 E.P 9 t with
     | none => simp only [hf] at he; exact j9 he
     | some fl =>
     simp only [hf] at he
     by_cases hgt : E.P.eqGuardType E.P.depth t = true
     ·simp only [hgt, if_true] at he; exact j9 he
     ·simp only [hgt, if_false] at he; exact Jc0 hA hH hG ho (.inl ⟨rfl, rfl⟩) hag hf (by simpa using hgt) he
    simp only [hag, if_false] at he
    cases hts : Ea2 o.op.operands.toList with
    | none => simp only [hts] at he; exact j9 he
    | some ts => simp only [hts] at he; exact Ic8 hA hH hG ho (.inl ⟨rfl, rfl⟩) hts he
   | neq =>
    by_cases hag : agT E.P t = true
    ·simp only [hag, if_true] at he
     cases hf : S8 E.P 9 t with
     | none => simp only [hf] at he; exact j9 he
     | some fl =>
     simp only [hf] at he
     by_cases hgt : E.P.eqGuardType E.P.depth t = true
     ·simp only [hgt, if_true] at he; exact j9 he
     ·simp only [hgt, if_false] at he; exact Jc0 hA hH hG ho (.inr ⟨rfl, rfl⟩) hag hf (by simpa using hgt) he
    simp only [hag, if_false] at he
    cases hts : Ea2 o.op.operands.toList with
    | none => simp only [hts] at he; exact j9 he
    | some ts => simp only [hts] at he; exact Ic8 hA hH hG ho (.inr ⟨rfl, rfl⟩) hts he
   | _ => exact hg he
  simp only [ho] at he
  cases hu : E.P.underlying t with
  | none => simp only [hu] at he; exact hrest he
  | some u =>
  cases u with
  | int k =>
   simp only [hu] at he
   cases op <;> first | exact zd3 hA hH hG ho he | exact hg he
  | _ => simp only [hu] at he; exact hrest he
 | unOp op t y =>
  have hg : (evalOp E a H (wb8 o)).run = some (x, H') → j6 E.P o ac w (L9 W ρ H F w x H') := hgen (fun cs b e => by rw [ho] at e; cases e)
  simp only [ho] at he
  cases op with
  | not => exact zd1 hA hH hG ho he
  | neg =>
   cases hu : E.P.underlying t with
   | none => simp only [hu] at he; exact hg he
   | some u =>
   cases u with
   | int k => simp only [hu] at he; exact zd2 hA hH hG ho he
   | _ => simp only [hu] at he; exact hg he
  | _ => exact hg he
 | call c =>
  have hg : (evalOp E a H (wb8 o)).run = some (x, H') → j6 E.P o ac w (L9 W ρ H F w x H') := hgen (fun cs b e => by rw [ho] at e; cases e)
  simp only [ho] at he
  cases hc : c.callee with
  | value y =>
   simp only [hc] at he
   cases y with
   | func f => exact md8 hA hH hG hcalls ho hc he
   | _ => exact ad1 hA hH hG hcalls ho hc he
  | invoke r m => simp only [hc] at he; exact j9 he
  | builtin b =>
   simp only [hc] at he
   cases b with
   | append =>
    rcases ub2 c.args.toList c.argTypes.toList with ⟨s, y, t, u, h1, h2⟩ | h
    ·rw [h1, h2] at he
     simp only [Oc3] at he
     cases hu : E.P.underlying t with
     | none => simp only [hu] at he; exact j9 he
     | some uu =>
     cases uu with
     | slice e =>
      simp only [hu] at he
      split at he
      ·rename_i hcond
       simp only [Bool.and_eq_true, Bool.not_eq_true'] at hcond
       obtain ⟨⟨⟨⟨c1, c2⟩, c3⟩, c4⟩, c5⟩ := hcond
       have htu := Nat.eq_of_beq_eq_true c5
       subst htu
       obtain ⟨ei, hei, hs, _⟩ := nc6 (P := E.P) (t := e) (Nat.pos_iff_ne_zero.1 (Nat.le_of_ble_eq_true c1))
       have hb : byT E.P e = ei.bytes := by simp [byT, hei]
       unfold Fd7 at c3
       simp only [hei] at c3
       cases hz : ei.zero with
       | none => simp [hz] at c3
       | some zv =>
       simp only [hz] at c3
       exact Oc8 hA hH hG ho hc (N9 h1) (N9 h2) hu hei hz (Nat.eq_of_beq_eq_true c3) (hs ▸ Nat.le_of_ble_eq_true c1) (hb ▸ Nat.le_of_ble_eq_true c2) (Nat.ne_of_beq_eq_false c4) he
      ·exact j9 he
     | _ => simp only [hu] at he; exact j9 he
    ·rw [h.1] at he; exact j9 he
   | copy =>
    rcases ub2 c.args.toList c.argTypes.toList with ⟨s, y, t, u, h1, h2⟩ | h
    ·rw [h1, h2] at he
     simp only [Fd8] at he
     cases hu : E.P.underlying t with
     | none => simp only [hu] at he; exact j9 he
     | some uu =>
     cases uu with
     | slice e =>
      simp only [hu] at he
      split at he
      ·rename_i hi
       obtain ⟨ei, hei⟩ := Option.isSome_iff_exists.1 hi
       exact md4 hA hH hG ho hc (N9 h1) (N9 h2) hu hei he
      ·exact j9 he
     | _ => simp only [hu] at he; exact j9 he
    ·rw [h.2] at he; exact j9 he
   | clear =>
    have he' : (evalOp E a H (fe2 E.P c.args.toList c.argTypes.toList)).run = some (x, H') := he
    revert he'
    generalize hl1 : c.args.toList = l1
    generalize hl2 : c.argTypes.toList = l2
    intro he'
    unfold fe2 at he'
    split at he'
    ·split at he'
     ·rename_i e hu
      split at he'
      ·rename_i z hz
       split at he'
       ·rename_i hp
        exact Ic9 hA hH hG ho hc (N9 hl1) (N9 hl2) hu hz (by rwa [Nat.blt_eq] at hp) he'
       ·exact j9 he'
      ·exact j9 he'
     ·exact j9 he'
    ·exact j9 he'
   | len =>
    rcases me4 c.args.toList c.argTypes.toList with ⟨y, t, h1, h2⟩ | h
    ·rw [h1, h2] at he
     simp only [fe3] at he
     cases hu : E.P.underlying t with
     | none => simp only [hu] at he; exact j9 he
     | some uu =>
     cases uu with
     | slice e => simp only [hu] at he; exact Ad0 hA hH hG ho hc (N9 h1) (N9 h2) hu he
     | array n e => simp only [hu] at he; exact Cc0 hH ho hc (N9 h1) (N9 h2) hu he
     | string => simp only [hu] at he; exact hg he
     | _ => simp only [hu] at he; exact j9 he
    ·rw [h] at he; exact j9 he
   | max => exact hg he
   | min => exact hg he
   | _ => exact j9 he
 | convert t u y => simp only [ho] at he; exact hgen (fun cs b e => by rw [ho] at e; cases e) he
 | makeInterface t y => simp only [ho] at he; exact hgen (fun cs b e => by rw [ho] at e; cases e) he
 | typeAssert t y u b => simp only [ho] at he; exact hgen (fun cs b e => by rw [ho] at e; cases e) he
 | _ => simp only [ho] at he; exact j9 he
theorem Qb5 : ∀ {cs : List b7}, Pb0 wb3 cs = true → freezeCells H cs = some (cs, H)
 | [], _ => rfl
 | c :: cs, h => by
  have e : Pb0 wb3 (c :: cs) = Bool.rec false (Pb0 wb3 cs) (wb3 c) := rfl
  rw [e] at h
  cases hc : wb3 c with
  | false => rw [hc] at h; cases h
  | true =>
   rw [hc] at h
   have ih := Qb5 h
   have h1 : freezeCell H c = some (c, H) := by
    unfold wb3 at hc
    unfold freezeCell
    cases c with
    | v u => simp only at hc ⊢; rw [hc]
    | tree => rfl
    | fn f caps => cases caps with
     | nil => rfl
     | cons => cases hc
    | _ => cases hc
   simp only [freezeCells, h1, ih]
theorem Pc3 {e es n : Nat} {z : List b7} {l : List (Nat × Nat × Arg)} (hb : ∀ {x : b7} {H' : List b8}, (evalOp E a H (.bslice e es n z l)).run = some (x, H') → j6 E.P o ac w (L9 W ρ H F w x H'))
  (he : (evalOp E a H (.tslice es n z l)).run = some (x, H')) : j6 E.P o ac w (L9 W ρ H F w x H') := by
 simp only [evalOp] at he
 cases hf : wb1 z (l0 (fun p => (p.1, p.2.1, c7 E a p.2.2)) l) with
 | none => rw [hf] at he; cases he
 | some cs =>
 rw [hf] at he
 simp only at he
 cases hp : Pb0 wb3 cs with
 | false => rw [hp] at he; cases he
 | true =>
 rw [hp] at he
 simp only [DT.run_ret] at he
 injection he with he; injection he with e1 e2; subst e1 e2
 have hrun : (evalOp E a H (.bslice e es n z l)).run = some (.sl H.length 0 n 0, H ++ [{ et := e, es, elems := pa2 es n cs, own := true, dead := false, g := 0 }]) := by
  simp only [evalOp, hf, Qb5 hp, DT.run_ret, l6, la0, C0]
 intro next Q hn
 refine hb hrun next Q fun x' w' ⟨ρ', F', a1, a2, a3⟩ => hn x' w' ?_
 generalize hblk : ({ et := e, es, elems := pa2 es n cs, own := true, dead := false, g := 0 } : b8) = blk at a1 a2 a3
 have hN : (H ++ [blk])[H.length]? = some blk := by simp
 have hd : blk.dead = false := by rw [← hblk]
 obtain ⟨F2, b1, b2, b3⟩ := a2.disown H.length blk hN hd
 have hat : blkAt (H ++ [blk]) H.length 0 = some blk := by
  unfold blkAt
  rw [y6, hN, ← hblk]
  rfl
 have htree := Zb0 a2 hat a3 b1.more b3
 have hlow : ∀ (id : Nat) b, H[id]? = some b → ((H ++ [blk]).set H.length { blk with own := false })[id]? = some b := fun id b h => by
  have := (List.getElem?_eq_some_iff.1 h).1
  rw [List.getElem?_set_ne (by omega), List.getElem?_append_left this]
  exact h
 have hext : ∀ (id : Nat) b, H[id]? = some b → ρ' id = ρ id := fun id b h => by
  obtain ⟨b', h1, _, _, h4⟩ := a1.heap id b h
  rw [List.getElem?_append_left (List.getElem?_eq_some_iff.1 h).1] at h1
  have : b' = b := Option.some.inj (h1.symm.trans h)
  subst this
  exact (h4 rfl).1
 refine ⟨ρ', F2, ⟨a1.ext, fun id b h => ⟨b, h, rfl, Nat.le_refl _, fun _ => ⟨hext id b h, rfl, Nat.le_refl _⟩⟩, fun b o h => b1.more b o (a1.more b o h), fun b o h => ?_, fun id b h hn => absurd rfl (hn b h)⟩, ?_, ?_⟩
 ·rcases b1.new b o h with h | h
  ·exact a1.new b o h
  ·exact .inr h
 ·exact b2.pull (fun id => id) (fun id b h hd => ⟨hlow id b h, rfl⟩) fun _ _ _ _ _ _ _ _ h => h
 ·have e : wb0 blk 0 n = .tree es n fun i => d9 (pa2 es n cs) (0 + i) := by rw [← hblk]; rfl
  rw [← e]
  exact .val (.cell (.mem htree))
theorem Zb5 {ops : Array Oper} (hA : la1 ρ H F w a ac.tmps) (hH : s5 W ρ H F w) (hG : GOk E F w) (hcalls : ∀ f, i5 E.P E.G f (E.call f))
  (he : (evalOp E a H (ob9 E.P ops o)).run = some (x, H')) : j6 E.P o ac w (L9 W ρ H F w x H') := by
 have hs : (evalOp E a H (cOp E.P o)).run = some (x, H') → j6 E.P o ac w (L9 W ρ H F w x H') := fun h => Gd5 hA hH hG hcalls h
 unfold ob9 at he
 split at he
 ·rename_i c ho
  split at he
  ·rename_i hcb
   revert he
   generalize hl1 : c.args.toList = l1
   generalize hl2 : c.argTypes.toList = l2
   intro he
   unfold me2 at he
   split at he
   ·rename_i s y t u
    split at he
    ·rename_i e hu
     split at he
     ·rename_i hc
      simp only [Bool.and_eq_true, Nat.blt_eq] at hc
      have htu := Nat.eq_of_beq_eq_true hc.2.2
      subst htu
      obtain ⟨ti, hi, hi0, hi1⟩ := nc6 (Nat.ne_of_gt hc.2.1)
      exact pc4 (y := .tmp s) hA hH hG ho hcb (N9 hl1) (N9 hl2) hu hi (by omega) he
     ·exact hs he
    ·exact hs he
   ·exact hs he
  ·exact hs he
 ·exact hs he
theorem Ad4 {ops : Array Oper} (tr : Nat) (hA : la1 ρ H F w a ac.tmps) (hH : s5 W ρ H F w) (hG : GOk E F w) (hcalls : ∀ f, i5 E.P E.G f (E.call f))
  (he : (evalOp E a H (xb0 tr (ob9 E.P ops o))).run = some (x, H')) : j6 E.P o ac w (L9 W ρ H F w x H') := by
 have hs : ∀ {x : b7} {H' : List b8}, (evalOp E a H (ob9 E.P ops o)).run = some (x, H') → j6 E.P o ac w (L9 W ρ H F w x H') := fun h => Zb5 hA hH hG hcalls h
 revert hs he
 generalize ob9 E.P ops o = q
 intro he hs
 cases q with
 | bslice e es n z l =>
  simp only [xb0] at he
  split at he
  ·exact hs he
  ·exact Pc3 hs he
 | _ => exact hs he
end
end Go.Ev
namespace Go.Ev
open Go
section
variable {W : Nat → Prop} {ρ ρ0 : Rho} {H H0 H2 : List b8} {F F0 : Fz} {w w0 : World} {k : Nat} {roots : List Nat}
structure TOk (k : Nat) (roots : List Nat) : Prop where
 nodup : roots.Nodup
 first : ∀ i, i < k → roots[i]? = some i
def TLe (r s : List Nat) : Prop := ∀ (i : Nat) y, r[i]? = some y → s[i]? = some y
theorem TLe.refl (r : List Nat) : TLe r r := fun _ _ h => h
theorem TLe.trans {r s t : List Nat} (h : TLe r s) (k : TLe s t) : TLe r t := fun i y hy => k i y (h i y hy)
theorem TOk.start (k : Nat) : TOk k (List.range k) := ⟨List.nodup_range, fun i hi => by rw [List.getElem?_range hi]⟩
theorem TOk.idx {id j : Nat} {r : List Nat} (hr : TOk k roots) (h : qa8 roots id = (j, r)) : TOk k r ∧ TLe roots r ∧ r[j]? = some id := by
 obtain ⟨h1, h2, h3, _⟩ := pc9 hr.nodup h
 exact ⟨⟨h2, fun i hi => h3 i i (hr.first i hi)⟩, h3, h1⟩
def gAt (k j g : Nat) : Nat := match Nat.blt j k with | true => g | false => 0
inductive TC (k : Nat) (H : List b8) (r : List Nat) : b7 → b7 → Prop
 | unk (x : b7) : TC k H r x .unk
 | ptr (id i c g j : Nat) (b : b8) (hb : blkAt H id g = some b) (hj : r[j]? = some id) : TC k H r (.ptr id i c g) (.ptr j i c (gAt k j g))
 | sl (id off n g j : Nat) (b : b8) (hb : blkAt H id g = some b) (hj : r[j]? = some id) : TC k H r (.sl id off n g) (.sl j off n (gAt k j g))
 | same (x : b7) (h : match x with | .ptr .. | .sl .. => False | _ => True) : TC k H r x x
inductive TV (k : Nat) (H : List b8) (r : List Nat) : b7 → b7 → Prop
 | cell {x z : b7} (hx : Pc2 x = true) (h : TC k H r x z) : TV k H r x z
 | agg (cs ds : List b7) (hl : ds.length = cs.length) (h : ∀ (i : Nat) x z, cs[i]? = some x → ds[i]? = some z → TC k H r x z) : TV k H r (.agg cs) (.agg ds)
 | fn (f : FuncId) (cs ds : List b7) (hl : ds.length = cs.length) (h : ∀ (i : Nat) x z, cs[i]? = some x → ds[i]? = some z → TC k H r x z) : TV k H r (.fn f cs) (.fn f ds)
 | tup (l : List b7) : TV k H r (.tup l) (.tup l)
inductive TW (k : Nat) (H : List b8) (r : List Nat) : b7 → b7 → Prop
 | val {x z : b7} (hx : ∀ l, x ≠ .tup l) (h : TV k H r x z) : TW k H r x z
 | tup (cs ds : List b7) (hl : ds.length = cs.length) (h : ∀ (i : Nat) x z, cs[i]? = some x → ds[i]? = some z → TV k H r x z) : TW k H r (.tup cs) (.tup ds)
theorem TC.le {r s : List Nat} {x z : b7} (h : TC k H r x z) (hle : TLe r s) : TC k H s x z := by
 cases h with
 | unk x => exact .unk x
 | ptr id i c g j b hb hj => exact .ptr id i c g j b hb (hle _ _ hj)
 | sl id off n g j b hb hj => exact .sl id off n g j b hb (hle _ _ hj)
 | same x h => exact .same x h
theorem TV.le {r s : List Nat} {x z : b7} (h : TV k H r x z) (hle : TLe r s) : TV k H s x z := by
 cases h with
 | cell hx h => exact .cell hx (h.le hle)
 | agg cs ds hl h => exact .agg cs ds hl fun i x z hx hz => (h i x z hx hz).le hle
 | fn f cs ds hl h => exact .fn f cs ds hl fun i x z hx hz => (h i x z hx hz).le hle
 | tup l => exact .tup l
theorem TW.le {r s : List Nat} {x z : b7} (h : TW k H r x z) (hle : TLe r s) : TW k H s x z := by
 cases h with
 | val hx h => exact .val hx (h.le hle)
 | tup cs ds hl h => exact .tup cs ds hl fun i x z hx hz => (h i x z hx hz).le hle
theorem ad2 {x z : b7} {r : List Nat} (hr : TOk k roots) (h : oc7 k H roots x = (z, r)) : TOk k r ∧ TLe roots r ∧ TC k H r x z := by
 have hsame : ∀ {y : b7}, (y, roots) = (z, r) → TC k H roots x y → TOk k r ∧ TLe roots r ∧ TC k H r x z := fun {y} e hc => by
  injection e with e1 e2
  subst e1 e2
  exact ⟨hr, .refl _, hc⟩
 unfold oc7 at h
 cases x with
 | ptr id i c g =>
  simp only at h
  cases hb : blkAt H id g with
  | none => simp only [hb] at h; exact hsame h (.unk _)
  | some b =>
   simp only [hb] at h
   cases hi : qa8 roots id with
   | mk j r2 =>
    simp only [hi] at h
    injection h with e1 e2
    subst e1 e2
    obtain ⟨h1, h2, h3⟩ := hr.idx hi
    exact ⟨h1, h2, .ptr id i c g j b hb h3⟩
 | sl id off n g =>
  simp only at h
  cases hb : blkAt H id g with
  | none => simp only [hb] at h; exact hsame h (.unk _)
  | some b =>
   simp only [hb] at h
   cases hi : qa8 roots id with
   | mk j r2 =>
    simp only [hi] at h
    injection h with e1 e2
    subst e1 e2
    obtain ⟨h1, h2, h3⟩ := hr.idx hi
    exact ⟨h1, h2, .sl id off n g j b hb h3⟩
 | _ => exact hsame h (.same _ trivial)
theorem qc2 : ∀ {l z : List b7} {roots r : List Nat}, TOk k roots → Pb1 k H l roots = (z, r) → TOk k r ∧ TLe roots r ∧ z.length = l.length ∧ ∀ (i : Nat) x y, l[i]? = some x → z[i]? = some y → TC k H r x y
 | [], z, roots, r, hr, h => by
  simp only [Pb1] at h
  injection h with e1 e2
  subst e1 e2
  exact ⟨hr, .refl _, rfl, fun i x y hx => by simp at hx⟩
 | x :: l, z, roots, r, hr, h => by
  simp only [Pb1] at h
  cases h1 : oc7 k H roots x with
  | mk y r1 =>
  simp only [h1] at h
  cases h2 : Pb1 k H l r1 with
  | mk l2 r2 =>
  simp only [h2] at h
  injection h with e1 e2
  subst e1 e2
  obtain ⟨a1, a2, a3⟩ := ad2 hr h1
  obtain ⟨b1, b2, b3, b4⟩ := qc2 a1 h2
  refine ⟨b1, a2.trans b2, by simp [b3], fun i u v hu hv => ?_⟩
  cases i with
  | zero => simp at hu hv; subst hu hv; exact a3.le b2
  | succ i => exact b4 i u v (by simpa using hu) (by simpa using hv)
theorem Jc5 {x z : b7} {r : List Nat} (hr : TOk k roots) (h : wb5 k H roots x = (z, r)) : TOk k r ∧ TLe roots r ∧ TV k H r x z := by
 have h1 : ∀ (hx : Pc2 x = true), oc7 k H roots x = (z, r) → TOk k r ∧ TLe roots r ∧ TV k H r x z := fun hx h => by
  obtain ⟨a1, a2, a3⟩ := ad2 hr h
  exact ⟨a1, a2, .cell hx a3⟩
 cases x with
 | fn f caps =>
  simp only [wb5] at h
  cases h2 : Pb1 k H caps roots with
  | mk l r2 =>
  simp only [h2] at h
  injection h with e1 e2
  subst e1 e2
  obtain ⟨b1, b2, b3, b4⟩ := qc2 hr h2
  exact ⟨b1, b2, .fn f caps l b3 b4⟩
 | agg caps =>
  simp only [wb5] at h
  cases h2 : Pb1 k H caps roots with
  | mk l r2 =>
  simp only [h2] at h
  injection h with e1 e2
  subst e1 e2
  obtain ⟨b1, b2, b3, b4⟩ := qc2 hr h2
  exact ⟨b1, b2, .agg caps l b3 b4⟩
 | tup l =>
  simp only [wb5, oc7] at h
  injection h with e1 e2
  subst e1 e2
  exact ⟨hr, .refl _, .tup l⟩
 | _ => exact h1 rfl h
theorem Jc6 : ∀ {l z : List b7} {roots r : List Nat}, TOk k roots → Lb0 k H l roots = (z, r) → TOk k r ∧ TLe roots r ∧ z.length = l.length ∧ ∀ (i : Nat) x y, l[i]? = some x → z[i]? = some y → TV k H r x y
 | [], z, roots, r, hr, h => by
  simp only [Lb0] at h
  injection h with e1 e2
  subst e1 e2
  exact ⟨hr, .refl _, rfl, fun i x y hx => by simp at hx⟩
 | x :: l, z, roots, r, hr, h => by
  simp only [Lb0] at h
  cases h1 : wb5 k H roots x with
  | mk y r1 =>
  simp only [h1] at h
  cases h2 : Lb0 k H l r1 with
  | mk l2 r2 =>
  simp only [h2] at h
  injection h with e1 e2
  subst e1 e2
  obtain ⟨a1, a2, a3⟩ := Jc5 hr h1
  obtain ⟨b1, b2, b3, b4⟩ := Jc6 a1 h2
  refine ⟨b1, a2.trans b2, by simp [b3], fun i u v hu hv => ?_⟩
  cases i with
  | zero => simp at hu hv; subst hu hv; exact a3.le b2
  | succ i => exact b4 i u v (by simpa using hu) (by simpa using hv)
theorem qc3 {x z : b7} {r : List Nat} (hr : TOk k roots) (h : oc8 k H roots x = (z, r)) : TOk k r ∧ TLe roots r ∧ TW k H r x z := by
 have h1 : (∀ l, x ≠ .tup l) → wb5 k H roots x = (z, r) → TOk k r ∧ TLe roots r ∧ TW k H r x z := fun hx h => by
  obtain ⟨a1, a2, a3⟩ := Jc5 hr h
  exact ⟨a1, a2, .val hx a3⟩
 cases x with
 | tup caps =>
  simp only [oc8] at h
  cases h2 : Lb0 k H caps roots with
  | mk l r2 =>
  simp only [h2] at h
  injection h with e1 e2
  subst e1 e2
  obtain ⟨b1, b2, b3, b4⟩ := Jc6 hr h2
  exact ⟨b1, b2, .tup caps l b3 b4⟩
 | _ => exact h1 (fun _ e => by cases e) h
theorem qc4 : ∀ {l z : List b7} {roots r : List Nat}, TOk k roots → Pb2 k H l roots = (z, r) → TOk k r ∧ TLe roots r ∧ z.length = l.length ∧ ∀ (i : Nat) x y, l[i]? = some x → z[i]? = some y → TW k H r x y
 | [], z, roots, r, hr, h => by
  simp only [Pb2] at h
  injection h with e1 e2
  subst e1 e2
  exact ⟨hr, .refl _, rfl, fun i x y hx => by simp at hx⟩
 | x :: l, z, roots, r, hr, h => by
  simp only [Pb2] at h
  cases h1 : oc8 k H roots x with
  | mk y r1 =>
  simp only [h1] at h
  cases h2 : Pb2 k H l r1 with
  | mk l2 r2 =>
  simp only [h2] at h
  injection h with e1 e2
  subst e1 e2
  obtain ⟨a1, a2, a3⟩ := qc3 hr h1
  obtain ⟨b1, b2, b3, b4⟩ := qc4 a1 h2
  refine ⟨b1, a2.trans b2, by simp [b3], fun i u v hu hv => ?_⟩
  cases i with
  | zero => simp at hu hv; subst hu hv; exact a3.le b2
  | succ i => exact b4 i u v (by simpa using hu) (by simpa using hv)
def reG (k j : Nat) (b : b8) : b8 := match Nat.blt j k with | true => b | false => { b with g := 0 }
theorem xb8 : ∀ {roots : List Nat} {j0 : Nat} {H2 : List b8}, xa4 k H j0 roots = some H2 → H2.length = roots.length ∧ ∀ (j : Nat) id, roots[j]? = some id → ∃ b, H[id]? = some b ∧ H2[j]? = some (reG k (j0 + j) b)
 | [], j0, H2, h => by
  simp only [xa4] at h
  injection h with h
  subst h
  exact ⟨rfl, fun j id h => by simp at h⟩
 | id :: roots, j0, H2, h => by
  simp only [xa4, y6] at h
  cases hb : H[id]? with
  | none => simp [hb] at h
  | some b =>
  simp only [hb] at h
  cases hr : xa4 k H (j0 + 1) roots with
  | none => simp [hr] at h
  | some l =>
  simp only [hr] at h
  injection h with h; subst h
  obtain ⟨h1, h2⟩ := xb8 hr
  refine ⟨by simp [h1], fun j id' hj => ?_⟩
  cases j with
  | zero => simp at hj; subst hj; exact ⟨b, hb, rfl⟩
  | succ j =>
   obtain ⟨b', k1, k2⟩ := h2 j id' (by simpa using hj)
   exact ⟨b', k1, by rw [show j0 + (j + 1) = j0 + 1 + j by omega]; exact k2⟩
theorem xa5 (j : Nat) (b : b8) : (reG k j b).dead = b.dead := by unfold reG; split <;> rfl
theorem Pc4 (j : Nat) (b : b8) : (reG k j b).own = b.own := by unfold reG; split <;> rfl
theorem Ya8 (j : Nat) (b : b8) : (reG k j b).es = b.es := by unfold reG; split <;> rfl
theorem Ca6 (j : Nat) (b : b8) : (reG k j b).elems = b.elems := by unfold reG; split <;> rfl
theorem Lb8 (j : Nat) (b : b8) : (reG k j b).et = b.et := by unfold reG; split <;> rfl
theorem ae9 (j : Nat) (b : b8) : (reG k j b).g = gAt k j b.g := by unfold reG gAt; split <;> rfl
section
variable (hr : TOk k roots) (hH : s5 W ρ H F w) (hb : xa4 k H 0 roots = some H2)
include hb
theorem Qb6 {j : Nat} {c : b8} (hc : H2[j]? = some c) : ∃ id b, roots[j]? = some id ∧ (roots[j]?).getD 0 = id ∧ H[id]? = some b ∧ c = reG k j b := by
 obtain ⟨hl, hat⟩ := xb8 hb
 have hj : j < roots.length := hl ▸ (List.getElem?_eq_some_iff.1 hc).1
 have hg := List.getElem?_eq_getElem hj
 obtain ⟨b, h1, h2⟩ := hat j _ hg
 refine ⟨_, b, hg, by simp [hg], h1, ?_⟩
 rw [Nat.zero_add] at h2
 exact Option.some.inj (hc.symm.trans h2)
include hr hH in
theorem Eb7 : s5 W (fun j => ρ ((roots[j]?).getD 0)) H2 F w := by
 refine ⟨fun j c hc hd => ?_, fun j j' c c' hc hc' hd hd' ho hne => ?_, hH.frz, hH.new⟩
 ·obtain ⟨id, b, h1, h2, h3, h4⟩ := Qb6 hb hc
  subst h4
  rw [xa5] at hd
  obtain ⟨cc, t, fr, hB⟩ := hH.blk id b h3 hd
  simp only [h2]
  exact ⟨cc, t, fr, hB.obj, hB.room, by rw [Ca6, Ya8]; exact hB.len, by rw [Ca6, Ya8]; exact hB.rows, by rw [Ca6, Ya8]; exact hB.cell, by rw [Pc4, Lb8]; exact hB.own, by rw [Pc4, Ca6, Ya8]; exact hB.kept⟩
 ·obtain ⟨id, b, h1, h2, h3, h4⟩ := Qb6 hb hc
  obtain ⟨id', b', h1', h2', h3', h4'⟩ := Qb6 hb hc'
  subst h4 h4'
  simp only [h2, h2']
  rw [xa5] at hd hd'
  rw [Pc4] at ho
  refine hH.apart id id' b b' h3 h3' hd hd' ho fun e => hne ?_
  subst e
  obtain ⟨a1, a2⟩ := List.getElem?_eq_some_iff.1 h1
  obtain ⟨b1, b2⟩ := List.getElem?_eq_some_iff.1 h1'
  exact (List.getElem_inj hr.nodup).1 (a2.trans b2.symm)
theorem Eb8 {x z : b7} {x' : Value} (h : TC k H roots x z) (hx : U2 ρ H F w x x') : U2 (fun j => ρ ((roots[j]?).getD 0)) H2 F w z x' := by
 obtain ⟨hl, hat⟩ := xb8 hb
 cases h with
 | unk x => exact .unk _
 | ptr id i c g j b hb1 hj =>
  obtain ⟨hb2, hd2, hg2⟩ := r9 hb1
  obtain ⟨b', k1, k2⟩ := hat j id hj
  have : b' = b := Option.some.inj (k1.symm.trans hb2)
  subst this
  rw [Nat.zero_add] at k2
  obtain ⟨ad, b3, e, m1, m2, m3, m4⟩ := Ea3 (.val (.cell hx))
  have : b3 = b' := Option.some.inj (m1.symm.trans hb2)
  subst this
  rw [e]
  refine .ptr j i c _ ad _ k2 (by rw [xa5]; exact hd2) (by rw [ae9, hg2]; exact Nat.le_refl _) fun _ => ?_
  rw [m4 hg2, Ya8]
  simp [hj]
 | sl id off n g j b hb1 hj =>
  obtain ⟨hb2, hd2, hg2⟩ := r9 hb1
  obtain ⟨b', k1, k2⟩ := hat j id hj
  have : b' = b := Option.some.inj (k1.symm.trans hb2)
  subst this
  rw [Nat.zero_add] at k2
  obtain ⟨ad, cap, b3, e, m1, m2, m3, m4, m5, m6, m7⟩ := Ba7 (.val (.cell hx))
  have : b3 = b' := Option.some.inj (m1.symm.trans hb2)
  subst this
  rw [e]
  refine .sl j off n _ ad cap _ k2 (by rw [xa5]; exact hd2) (by rw [ae9, hg2]; exact Nat.le_refl _) m4 m5 m6 fun _ => ?_
  have := m7 hg2
  rw [Ya8, Ca6]
  simpa [hj] using this
 | same x hs =>
  cases hx with
  | mem h => exact .mem h
  | v => exact .v _
  | ptr => exact hs.elim
  | sl => exact hs.elim
  | tptr cs a vs h1 h2 h3 h4 => exact .tptr cs a vs h1 h2 h3 h4
  | unk x' => exact .unk _
theorem ad3 {x z : b7} {x' : Value} (h : TV k H roots x z) (hx : W0 ρ H F w x x') : W0 (fun j => ρ ((roots[j]?).getD 0)) H2 F w z x' := by
 cases h with
 | cell hbare h =>
  cases hx with
  | cell hx => exact .cell (Eb8 hb h hx)
  | _ => cases hbare
 | agg cs ds hl h =>
  obtain ⟨vs, e, hl2, h2⟩ := Aa2 (.val hx)
  rw [e]
  refine .agg ds vs (hl.trans hl2) fun i y y' hy hy' => ?_
  have hi : i < cs.length := hl ▸ (List.getElem?_eq_some_iff.1 hy).1
  exact Eb8 hb (h i _ y (List.getElem?_eq_getElem hi) hy) (h2 i _ y' (List.getElem?_eq_getElem hi) hy')
 | fn f cs ds hl h =>
  obtain ⟨vs, e, hl2, h2⟩ := pb1 (.val hx)
  rw [e]
  refine .fn f ds vs (hl.trans hl2) fun i y y' hy hy' => ?_
  have hi : i < cs.length := hl ▸ (List.getElem?_eq_some_iff.1 hy).1
  exact Eb8 hb (h i _ y (List.getElem?_eq_getElem hi) hy) (h2 i _ y' (List.getElem?_eq_getElem hi) hy')
 | tup l =>
  cases hx with
  | cell hx => cases hx with
   | mem h => cases h
theorem Pc5 {x z : b7} {x' : Value} (h : TW k H roots x z) (hx : z8 ρ H F w x x') : z8 (fun j => ρ ((roots[j]?).getD 0)) H2 F w z x' := by
 cases h with
 | val hnt h =>
  cases hx with
  | val hx => exact .val (ad3 hb h hx)
  | tup cs vs hl h2 => exact absurd rfl (hnt cs)
 | tup cs ds hl h =>
  obtain ⟨vs, e, hl2, h2⟩ := Oc6 hx
  rw [e]
  refine .tup ds vs (hl.trans hl2) fun i y y' hy hy' => ?_
  have hi : i < cs.length := hl ▸ (List.getElem?_eq_some_iff.1 hy).1
  exact ad3 hb (h i _ y (List.getElem?_eq_getElem hi) hy) (h2 i _ y' (List.getElem?_eq_getElem hi) hy')
end
end
end Go.Ev
namespace Go.Ev
open Go
section
variable {W : Nat → Prop} {ρ ρ0 : Rho} {H H0 : List b8} {F F0 : Fz} {w w0 : World} {E : Env}
def Inv (W : Nat → Prop) (ρ0 : Rho) (H0 : List b8) (F0 : Fz) (w0 : World) (s : St) (ac : Act) (w : World) : Prop :=
 ac.defers = [] ∧ ∃ ρ F, Adv W ρ0 H0 F0 w0 ρ s.H F w ∧ s5 W ρ s.H F w ∧ la1 ρ s.H F w s.a ac.tmps
theorem Eb9 (a : List b7) (dst : Option Nat) (x : b7) : putA a dst x = match dst with | some d => a.set d x | none => a := by
 have : putA a dst x = Option.rec (motive := fun _ => List b7) a (fun d => setAt a d x) dst := rfl
 rw [this]
 cases dst with
 | none => rfl
 | some d => simp [z6]
theorem la1.putA {a : List b7} {ac : Act} (h : la1 ρ H F w a ac.tmps) (dst : Option Nat) {x : b7} {x' : Value} (hx : z8 ρ H F w x x') : la1 ρ H F w (Ev.putA a dst x) (ac.put dst x').tmps := by
 rw [Eb9]
 cases dst with
 | none => exact h
 | some d => exact h.put d hx
theorem y8 {ac : Act} (dst : Option Nat) (x : Value) : (ac.put dst x).defers = ac.defers := by cases dst <;> rfl
theorem ad4 {s : St} {n : Nat} {x : b7} (hx : x ≠ .unk) (h : c7 E s.a (.t n) = x) : setAt s.a n x = s.a := by
 rw [Va2] at h
 rw [z6]
 rcases Nat.lt_or_ge n s.a.length with hlt | hge
 ·rw [List.getElem?_eq_getElem hlt] at h
  simp only [Option.getD_some] at h
  subst h
  exact List.set_getElem_self hlt
 ·rw [List.getElem?_eq_none hge] at h
  exact absurd h.symm hx
theorem fc4 (s : St) (dst : Option Nat) (g : Nat × Bool) (hide : List Nat) (op : PO) : (Da9 E s ⟨dst, some g, hide, op⟩).run = (match c7 E s.a (.t g.1) with
   | .v (.bool b) => .ite (match g.2 with | true => b | false => !b) (ic7 E s ⟨dst, some g, hide, op⟩) (.ret ⟨putA s.a dst (.v (.tuple #[])), s.H⟩)
   | .v (.tuple _) => .ret ⟨putA s.a dst (.v (.tuple #[])), s.H⟩
   | _ => .fail : DT St).run := by
 obtain ⟨d, want⟩ := g
 have e : Da9 E s ⟨dst, some (d, want), hide, op⟩ = (match c7 E s.a (.t d) with
   | .v (.bool b) => Bool.rec (motive := fun _ => DT St)
     (.ite b (.ret ⟨putA (setAt s.a d (.v (.bool true))) dst (.v (.tuple #[])), s.H⟩) (ic7 E ⟨setAt s.a d (.v (.bool false)), s.H⟩ ⟨dst, some (d, want), hide, op⟩))
     (.ite b (ic7 E ⟨setAt s.a d (.v (.bool true)), s.H⟩ ⟨dst, some (d, want), hide, op⟩) (.ret ⟨putA (setAt s.a d (.v (.bool false))) dst (.v (.tuple #[])), s.H⟩)) want
   | .v (.tuple _) => .ret ⟨putA s.a dst (.v (.tuple #[])), s.H⟩
   | _ => .fail) := rfl
 rw [e]
 have hk : ∀ b, c7 E s.a (.t d) = .v (.bool b) → setAt s.a d (.v (.bool b)) = s.a := fun b h => ad4 (E := E) (by simp) h
 revert hk
 generalize c7 E s.a (.t d) = u
 intro hk
 cases u with
 | v x =>
  cases x with
  | bool b =>
   have := hk b rfl
   cases want <;> cases b <;> simp only [DT.run_ite, this] <;> rfl
  | _ => rfl
 | _ => rfl
theorem pb4 {ops : Array Oper} {tmps : Array Value} {j d : Nat} {oj : Oper} {b : Bool} (hj : ops[j]? = some oj) (hd : oj.dst = some d) (h : tmps[d]? = some (.bool b)) : yielded ops tmps j = some b := by
 simp [yielded, hj, hd, h]
theorem ib7 {ops : Array Oper} {tmps : Array Value} {j d : Nat} {oj : Oper} {vs : Array Value} (hj : ops[j]? = some oj) (hd : oj.dst = some d) (h : tmps[d]? = some (.tuple vs)) : yielded ops tmps j = none := by
 simp [yielded, hj, hd, h]
theorem fc5 {ops : Array Oper} {o : Oper} {g : Option (Nat × Bool)} {hide : List Nat} {op : PO} {s s' : St} {ac : Act} (hg : Z8 ops o = some g) (hA : la1 ρ H F w s.a ac.tmps)
  (he : (Da9 E s ⟨o.dst, g, hide, op⟩).run = some s') :
  (Region.wanted o (yielded ops ac.tmps) = true ∧ (ic7 E s ⟨o.dst, g, hide, op⟩).run = some s') ∨ (Region.wanted o (yielded ops ac.tmps) = false ∧ s' = ⟨putA s.a o.dst (.v (.tuple #[])), s.H⟩) := by
 unfold Z8 at hg
 unfold Region.wanted
 cases hgo : o.guard with
 | none =>
  simp only [hgo] at hg ⊢
  injection hg with hg
  subst hg
  exact .inl ⟨trivial, he⟩
 | some jw =>
  obtain ⟨j, want⟩ := jw
  simp only [hgo] at hg ⊢
  cases hj : ops[j]? with
  | none => simp [hj] at hg
  | some oj =>
  simp only [hj] at hg
  cases hd : oj.dst with
  | none => simp [hd] at hg
  | some d =>
  simp only [hd] at hg
  injection hg with hg
  subst hg
  rw [fc4] at he
  have hev := Va2 E s.a d
  have hrel : ∀ v, c7 E s.a (.t d) = .v v → ac.tmps[d]? = some v := fun v hv => by
   rw [hev] at hv
   rcases Nat.lt_or_ge d s.a.length with hlt | hge
   ·rw [List.getElem?_eq_getElem hlt] at hv
    have hlt' : d < ac.tmps.size := hA.1 ▸ hlt
    have h1 := hA.2 d _ _ (List.getElem?_eq_getElem hlt) (Array.getElem?_eq_getElem hlt')
    simp only [Option.getD_some] at hv
    rw [hv] at h1
    rw [Array.getElem?_eq_getElem hlt', Z1 h1]
   ·rw [List.getElem?_eq_none hge] at hv; cases hv
  revert he hrel
  generalize c7 E s.a (.t d) = u
  intro he hrel
  split at he
  ·rename_i b
   have hb := hrel _ rfl
   rw [pb4 hj hd hb]
   rcases DT.run_ite_some he with ⟨h1, h2⟩ | ⟨h1, h2⟩
   ·refine .inl ⟨?_, h2⟩
    revert h1
    cases want <;> cases b <;> first | (intro _; rfl) | (intro h; cases h)
   ·refine .inr ⟨?_, ?_⟩
    ·revert h1
     cases want <;> cases b <;> first | (intro _; rfl) | (intro h; cases h)
    ·simpa using h2.symm
  ·rename_i vs
   have hb := hrel _ rfl
   rw [ib7 hj hd hb]
   exact .inr ⟨rfl, by simpa using he.symm⟩
  ·cases he
theorem Jc7 {P : Program} {ops : Array Oper} {o : Oper} {r : List Oper} {l : List PI} (h : Hb2 P ops (o :: r) = some l) : ∃ g l', Z8 ops o = some g ∧ Hb2 P ops r = some l' ∧ l = ⟨o.dst, g, [], ob9 P ops o⟩ :: l' := by
 simp only [Hb2] at h
 cases hg : Z8 ops o with
 | none => simp [hg] at h
 | some g =>
 simp only [hg] at h
 cases hl : Hb2 P ops r with
 | none => simp [hl] at h
 | some l' =>
 simp only [hl] at h
 injection h with h
 exact ⟨g, l', rfl, rfl, h.symm⟩
section
variable (hG0 : GOk E F0 w0) (hcalls : ∀ f, i5 E.P E.G f (E.call f))
include hG0 hcalls
theorem Gd6 {ops : Array Oper} {o : Oper} {g : Option (Nat × Bool)} {s s' : St} {ac : Act} {i : Nat} {Q : Exit → Act → World → Prop} {K : Act → World → Prop} (hi : ops[i]? = some o) (hg : Z8 ops o = some g)
  (hI : Inv W ρ0 H0 F0 w0 s ac w) (he : (Da9 E s ⟨o.dst, g, [], ob9 E.P ops o⟩).run = some s') (hK : ∀ ac' w', Inv W ρ0 H0 F0 w0 s' ac' w' → K ac' w') : wpOp E.P ops Q i K ac w := by
 obtain ⟨hd, ρ, F, hAdv, hH, hA⟩ := hI
 unfold wpOp
 simp only [hi]
 rcases fc5 hg hA he with ⟨hw, he⟩ | ⟨hw, he⟩
 ·rw [if_pos hw]
  refine .inl ?_
  unfold ic7 at he
  obtain ⟨⟨x, H'⟩, h1, h2⟩ := DT.run_bind_some he
  have h1' : (evalOp E s.a s.H (ob9 E.P ops o)).run = some (x, H') := h1
  refine Zb5 hA hH (hG0.adv hAdv) hcalls h1' K Q fun x' w' hp => ?_
  obtain ⟨ρ', F', a1, a2, a3⟩ := hp
  have h2' : some (⟨putA s.a o.dst x, H'⟩ : St) = some s' := h2
  injection h2' with h2'
  subst h2'
  exact hK _ _ ⟨(y8 _ _).trans hd, ρ', F', hAdv.trans a1, a2, (hA.adv a1).putA o.dst a3⟩
 ·rw [if_neg (by simp [hw])]
  subst he
  exact hK _ _ ⟨(y8 _ _).trans hd, ρ, F, hAdv, hH, hA.putA o.dst (.ofv _)⟩
theorem Jc8 {ops : Array Oper} {Q : Exit → Act → World → Prop} : ∀ (r : List Oper) (k : Nat) (l : List PI) (s s' : St) (ac : Act) (w : World), ops.toList.drop k = r → Hb2 E.P ops r = some l → Inv W ρ0 H0 F0 w0 s ac w → (I8 E l s).run = some s' →
  (∀ ac' w', Inv W ρ0 H0 F0 w0 s' ac' w' → Q .normal ac' w') → wpOps E.P ops Q (List.range' k r.length) ac w
 | [], k, l, s, s', ac, w, hr, hl, hI, he, hQ => by
  simp only [Hb2] at hl
  injection hl with hl
  subst hl
  have he' : some s = some s' := he
  injection he' with he'
  subst he'
  exact hQ ac w hI
 | o :: r, k, l, s, s', ac, w, hr, hl, hI, he, hQ => by
  obtain ⟨g, l', h1, h2, rfl⟩ := Jc7 hl
  have he' : ((Da9 E s ⟨o.dst, g, [], ob9 E.P ops o⟩).bind (I8 E l')).run = some s' := he
  obtain ⟨s1, h3, h4⟩ := DT.run_bind_some he'
  have hi : ops[k]? = some o := by
   have : (ops.toList.drop k)[0]? = some o := by rw [hr]; rfl
   simpa using this
  rw [show (o :: r).length = r.length + 1 from rfl, List.range'_succ, wpOps_cons]
  refine Gd6 hG0 hcalls hi h1 hI h3 fun ac' w' hI' => ?_
  refine Jc8 r (k + 1) l' s1 s' ac' w' ?_ h2 hI' h4 hQ
  rw [← List.drop_drop, hr]
  rfl
end
def toX : d7 → Exit
 | .normal => .normal
 | .exit id => .exit id
 | .ret => .ret
inductive H6 (P : Program) : Code → PC → Prop
 | skip : H6 P .skip .skip
 | ops (id : Nat) (ops : Array Oper) (l : List PI) (h : Hb2 P ops ops.toList = some l) : H6 P (.region id ops false) (.ops l)
 | draw (id : Nat) (ops : Array Oper) (dsts : List Nat) (as l : List PI) (ps : List (PO × PO)) (h : Pb7 P ops = .draw dsts as l ps) : H6 P (.region id ops true) (.draw dsts as l ps)
 | seq {a b : Code} {x y : PC} (ha : H6 P a x) (hb : H6 P b y) : H6 P (.seq a b) (.seq x y)
 | cond (c : Operand) {a b : Code} {x y : PC} (ha : H6 P a x) (hb : H6 P b y) : H6 P (.cond c a b) (.cond (g8 c) x y)
 | block (id : Nat) {a : Code} {x : PC} (ha : H6 P a x) : H6 P (.block id a) (.block id x)
 | loop (keep : List Nat) {a : Code} {x : PC} (ha : H6 P a x) : H6 P (.loop a) (.loop keep x)
 | scope {a : Code} {x : PC} (ha : H6 P a x) : H6 P (.scope a) x
 | label (l : Nat) : H6 P (.label l) .skip
 | exit (id : Nat) : H6 P (.exit id) (.exit id)
 | ret : H6 P .ret .ret
 | bad (c : Code) : H6 P c .bad
theorem Rd9 (P : Program) : ∀ c : Code, H6 P c (Pb8 P c) := by
 intro c
 induction c with
 | skip => exact .skip
 | region id ops d =>
  cases d with
  | false =>
   show H6 P _ (match Hb2 P ops ops.toList with | some l => PC.ops l | none => .bad)
   cases h : Hb2 P ops ops.toList with
   | none => exact .bad _
   | some l => exact .ops id ops l h
  | true =>
   show H6 P _ (Pb7 P ops)
   have hT : ∀ tr, (∃ a b c d, xb2 tr P ops = .draw a b c d) ∨ xb2 tr P ops = .bad := fun tr => by
    unfold xb2 ld7
    simp only
    split
    ·split
     ·exact .inl ⟨_, _, _, _, rfl⟩
     ·exact .inr rfl
    ·exact .inr rfl
   have hc : (∃ a b c d, Pb7 P ops = .draw a b c d) ∨ Pb7 P ops = .bad := by
    unfold Pb7
    rcases hT 0 with ⟨a, b, c, d, h⟩ | h
    ·rw [h]; exact .inl ⟨_, _, _, _, rfl⟩
    ·rw [h]
     rcases hT 1 with ⟨a, b, c, d, h⟩ | h
     ·rw [h]; exact .inl ⟨_, _, _, _, rfl⟩
     ·rw [h]; exact hT 2
   rcases hc with ⟨a, b, c, d, h⟩ | h
   ·rw [h]; exact .draw id ops a b c d h
   ·rw [h]; exact .bad _
 | seq a b ha hb => exact .seq ha hb
 | cond c a b ha hb => exact .cond c ha hb
 | block id a ha => exact .block id ha
 | loop a ha => exact .loop _ ha
 | scope a ha => exact .scope ha
 | label l => exact .label l
 | exit id => exact .exit id
 | ret => exact .ret
 | _ => exact .bad _
theorem H6.note {P : Program} {c : Code} {x : PC} (h : H6 P c x) (n ret : Nat) : ∀ (out : Nat) (ex : Nat → Nat), H6 P c (Ev.note n ret x out ex) := by
 induction h with
 | skip => exact fun _ _ => .skip
 | ops id ops l h => exact fun _ _ => .ops id ops l h
 | draw id ops dsts as l ps h => exact fun _ _ => .draw id ops dsts as l ps h
 | seq ha hb iha ihb => exact fun out ex => .seq (iha _ _) (ihb _ _)
 | cond c ha hb iha ihb => exact fun out ex => .cond c (iha _ _) (ihb _ _)
 | block id ha ih => exact fun out ex => .block id (ih _ _)
 | loop keep ha ih => exact fun out ex => .loop _ (ih _ _)
 | scope ha ih => exact fun out ex => .scope (ih out ex)
 | label l => exact fun _ _ => .label l
 | exit id => exact fun _ _ => .exit id
 | ret => exact fun _ _ => .ret
 | bad c => exact fun _ _ => .bad c
theorem Inv.keep {s : St} {ac : Act} {a : List b7} (h : Inv W ρ0 H0 F0 w0 s ac w) (ha : a.length = s.a.length) (hat : ∀ (i : Nat) x, a[i]? = some x → x = .unk ∨ s.a[i]? = some x) : Inv W ρ0 H0 F0 w0 ⟨a, s.H⟩ ac w := by
 obtain ⟨hd, ρ, F, h1, h2, h3⟩ := h
 refine ⟨hd, ρ, F, h1, h2, ha.trans h3.1, fun i x x' hx hx' => ?_⟩
 rcases hat i x hx with rfl | h
 ·exact .unk _
 ·exact h3.2 i x x' h hx'
theorem xb9 (keep : List Nat) : ∀ (l : List b7) (k : Nat), (I4 keep l k).length = l.length ∧ ∀ (i : Nat) x, (I4 keep l k)[i]? = some x → x = .unk ∨ l[i]? = some x
 | [], k => ⟨rfl, fun i x h => by simp [I4] at h⟩
 | y :: l, k => by
  obtain ⟨h1, h2⟩ := xb9 keep l (k + 1)
  have e : I4 keep (y :: l) k = Bool.rec .unk y (Na0 k keep) :: I4 keep l (k + 1) := rfl
  rw [e]
  refine ⟨by simp [h1], fun i x hx => ?_⟩
  cases i with
  | zero =>
   simp at hx
   subst hx
   cases Na0 k keep
   ·exact .inl rfl
   ·exact .inr rfl
  | succ i => exact h2 i x (by simpa using hx)
theorem Qb7 {roots : List Nat} {H2 : List b8} (hr : TOk H0.length roots) (hb : xa4 H0.length H 0 roots = some H2) (h : Adv W ρ0 H0 F0 w0 ρ H F w) : Adv W ρ0 H0 F0 w0 (fun j => ρ ((roots[j]?).getD 0)) H2 F w := by
 obtain ⟨hl, hat⟩ := xb8 hb
 refine ⟨h.ext, fun id b hid => ?_, h.more, h.new, fun id b' hid hn => ?_⟩
 ·have hlt := (List.getElem?_eq_some_iff.1 hid).1
  obtain ⟨b1, h1, h2, h3, h4⟩ := h.heap id b hid
  have hroot := hr.first id hlt
  obtain ⟨b2, k1, k2⟩ := hat id id hroot
  have : b2 = b1 := Option.some.inj (k1.symm.trans h1)
  subst this
  have hre : reG H0.length (0 + id) b2 = b2 := by
   rw [Nat.zero_add]
   unfold reG
   have : Nat.blt id H0.length = true := by simpa [Nat.blt_eq] using hlt
   rw [this]
  rw [hre] at k2
  exact ⟨b2, k2, h2, h3, fun hg => by simp only [hroot, Option.getD_some]; exact h4 hg⟩
 ·obtain ⟨id', b, h1, h2, h3, h4⟩ := Qb6 hb hid
  simp only [h2]
  by_cases hlt : id < H0.length
  ·have hroot := hr.first id hlt
   have : id' = id := Option.some.inj (h1.symm.trans hroot)
   subst this
   refine h.fresh id' b h3 fun bb hbb hg => hn bb hbb ?_
   rw [h4]
   have : Nat.blt id' H0.length = true := by simpa [Nat.blt_eq] using hlt
   simp only [reG, this]
   exact hg
  ·refine h.fresh id' b h3 fun bb hbb _ => ?_
   have hlt' := (List.getElem?_eq_some_iff.1 hbb).1
   have hroot := hr.first id' hlt'
   obtain ⟨a1, a2⟩ := List.getElem?_eq_some_iff.1 h1
   obtain ⟨b1, b2⟩ := List.getElem?_eq_some_iff.1 hroot
   have := (List.getElem_inj hr.nodup).1 (a2.trans b2.symm)
   omega
theorem Inv.tidy {s s' : St} {ac : Act} (h : Inv W ρ0 H0 F0 w0 s ac w) (he : (Ev.tidy H0.length s).run = some s') : Inv W ρ0 H0 F0 w0 s' ac w := by
 obtain ⟨hd, ρ, F, h1, h2, h3⟩ := h
 unfold Ev.tidy at he
 cases ht : Pb2 H0.length s.H s.a (List.range H0.length) with
 | mk a roots =>
 simp only [ht] at he
 cases hb : xa4 H0.length s.H 0 roots with
 | none => simp [hb] at he
 | some H2 =>
 simp only [hb] at he
 have he' : some (⟨a, H2⟩ : St) = some s' := he
 injection he' with he'
 subst he'
 obtain ⟨k1, _, k3, k4⟩ := qc4 (TOk.start _) ht
 refine ⟨hd, _, F, Qb7 k1 hb h1, Eb7 k1 h2 hb, k3.trans h3.1, fun i x x' hx hx' => ?_⟩
 have hi : i < s.a.length := k3 ▸ (List.getElem?_eq_some_iff.1 hx).1
 exact Pc5 hb (k4 i _ x (List.getElem?_eq_getElem hi) hx) (h3.2 i _ x' (List.getElem?_eq_getElem hi) hx')
def nd0 (E : Env) : Prop := ∀ (W : Nat → Prop) (ρ0 : Rho) (H0 : List b8) (F0 : Fz) (w0 : World), GOk E F0 w0 →
 ∀ (id : Nat) (ops : Array Oper) (dsts : List Nat) (as l : List PI) (ps : List (PO × PO)), Pb7 E.P ops = .draw dsts as l ps →
 ∀ (s x s' ), (K2 E H0.length (.draw dsts as l ps) s).run = some (x, s') → ∀ (ac : Act) (w : World) (Q : Exit → Act → World → Prop), Inv W ρ0 H0 F0 w0 s ac w →
 (∀ ac' w', Inv W ρ0 H0 F0 w0 s' ac' w' → Q (toX x) ac' w') → (Code.region id ops true).wp E.P Q ac w
theorem qc5 {c : Code} {y : PC} {keep : List Nat} (ih : ∀ (s : St) (x : d7) (s' : St), (K2 E H0.length y s).run = some (x, s') → ∀ (ac : Act) (w : World) (Q : Exit → Act → World → Prop), Inv W ρ0 H0 F0 w0 s ac w →
  (∀ ac' w', Inv W ρ0 H0 F0 w0 s' ac' w' → Q (toX x) ac' w') → c.wp E.P Q ac w) :
  ∀ (n : Nat) (s : St) (x : d7) (s' : St), (vb1 (fun s => tidy H0.length ⟨I4 keep s.a 0, s.H⟩) (K2 E H0.length y) n s).run = some (x, s') → ∀ (ac : Act) (w : World) (Q : Exit → Act → World → Prop), Inv W ρ0 H0 F0 w0 s ac w →
  (∀ ac' w', Inv W ρ0 H0 F0 w0 s' ac' w' → Q (toX x) ac' w') → Code.rounds E.P c Q n ac w
 | 0, s, x, s', he, ac, w, Q, hI, hQ => by cases he
 | n + 1, s, x, s', he, ac, w, Q, hI, hQ => by
  have he' : ((tidy H0.length ⟨I4 keep s.a 0, s.H⟩).bind fun s => (K2 E H0.length y s).bind fun r =>
   d7.rec (motive := fun _ => DT (d7 × St)) (vb1 (fun s => tidy H0.length ⟨I4 keep s.a 0, s.H⟩) (K2 E H0.length y) n r.2) (fun id => .ret (.exit id, r.2)) (.ret (.ret, r.2)) r.1).run = some (x, s') := he
  obtain ⟨s1, h1, h2⟩ := DT.run_bind_some he'
  obtain ⟨⟨x2, s2⟩, h3, h4⟩ := DT.run_bind_some h2
  obtain ⟨k1, k2⟩ := xb9 keep s.a 0
  have hI1 := (hI.keep (a := I4 keep s.a 0) k1 k2).tidy h1
  rw [rounds_succ]
  refine ih s1 x2 s2 h3 ac w _ hI1 fun ac' w' hI2 => ?_
  cases x2 with
  | normal => exact qc5 ih n s2 x s' h4 ac' w' Q hI2 hQ
  | exit id =>
   have h4' : some (d7.exit id, s2) = some (x, s') := h4
   injection h4' with h4'; injection h4' with e1 e2; subst e1 e2
   exact hQ _ _ hI2
  | ret =>
   have h4' : some (d7.ret, s2) = some (x, s') := h4
   injection h4' with h4'; injection h4' with e1 e2; subst e1 e2
   exact hQ _ _ hI2
section
variable (hG0 : GOk E F0 w0) (hcalls : ∀ f, i5 E.P E.G f (E.call f)) (hdraw : nd0 E)
include hG0 hcalls hdraw
theorem nd1 {c : Code} {y : PC} (hc : H6 E.P c y) : ∀ (s : St) (x : d7) (s' : St), (K2 E H0.length y s).run = some (x, s') → ∀ (ac : Act) (w : World) (Q : Exit → Act → World → Prop), Inv W ρ0 H0 F0 w0 s ac w →
  (∀ ac' w', Inv W ρ0 H0 F0 w0 s' ac' w' → Q (toX x) ac' w') → c.wp E.P Q ac w := by
 induction hc with
 | skip =>
  intro s x s' he ac w Q hI hQ
  have he' : some (d7.normal, s) = some (x, s') := he
  injection he' with he'; injection he' with e1 e2; subst e1 e2
  exact wp_skip (hQ _ _ hI)
 | ops id ops l h =>
  intro s x s' he ac w Q hI hQ
  have he' : ((I8 E l s).bind fun s => .ret (d7.normal, s)).run = some (x, s') := he
  obtain ⟨s1, h1, h2⟩ := DT.run_bind_some he'
  have h2' : some (d7.normal, s1) = some (x, s') := h2
  injection h2' with h2'; injection h2' with e1 e2; subst e1 e2
  refine wp_region ?_
  rw [List.range_eq_range']
  have := Jc8 (Q := Q) hG0 hcalls ops.toList 0 l s s1 ac w rfl h hI h1 hQ
  simpa using this
 | draw id ops dsts as l ps h =>
  intro s x s' he ac w Q hI hQ
  exact hdraw W ρ0 H0 F0 w0 hG0 id ops dsts as l ps h s x s' he ac w Q hI hQ
 | seq ha hb iha ihb =>
  intro s x s' he ac w Q hI hQ
  obtain ⟨⟨x1, s1⟩, h1, h2⟩ := DT.run_bind_some he
  refine wp_seq (iha s x1 s1 h1 ac w _ hI fun ac' w' hI' => ?_)
  cases x1 with
  | normal => exact ihb s1 x s' h2 ac' w' Q hI' hQ
  | exit id =>
   have h2' : some (d7.exit id, s1) = some (x, s') := h2
   injection h2' with h2'; injection h2' with e1 e2; subst e1 e2
   exact hQ _ _ hI'
  | ret =>
   have h2' : some (d7.ret, s1) = some (x, s') := h2
   injection h2' with h2'; injection h2' with e1 e2; subst e1 e2
   exact hQ _ _ hI'
 | @cond c a b y z ha hb iha ihb =>
  intro s x s' he ac w Q hI hQ
  have he' : (match c7 E s.a (g8 c) with
   | .v (.bool b) => DT.ite b (K2 E H0.length y s) (K2 E H0.length z s)
   | _ => DT.fail).run = some (x, s') := he
  have hc : z8 _ _ _ _ (c7 E s.a (g8 c)) (ac.eval c) := l7 hI.2.choose_spec.choose_spec.2.2 (hG0.adv hI.2.choose_spec.choose_spec.1) c
  revert he' hc
  generalize c7 E s.a (g8 c) = u
  intro he' hc
  split at he'
  ·rename_i b
   have hb := Z1 hc
   rcases DT.run_ite_some he' with ⟨rfl, h⟩ | ⟨rfl, h⟩
   ·exact wp_cond_true hb (iha s x s' h ac w Q hI hQ)
   ·exact wp_cond_false hb (ihb s x s' h ac w Q hI hQ)
  ·cases he'
 | @block id a y ha ih =>
  intro s x s' he ac w Q hI hQ
  obtain ⟨⟨x1, s1⟩, h1, h2⟩ := DT.run_bind_some he
  refine wp_block (ih s x1 s1 h1 ac w _ hI fun ac' w' hI' => ?_)
  cases x1 with
  | normal =>
   have h2' : some (d7.normal, s1) = some (x, s') := h2
   injection h2' with h2'; injection h2' with e1 e2; subst e1 e2
   exact hQ _ _ hI'
  | ret =>
   have h2' : some (d7.ret, s1) = some (x, s') := h2
   injection h2' with h2'; injection h2' with e1 e2; subst e1 e2
   exact hQ _ _ hI'
  | exit id' =>
   have h2' : (Bool.rec (motive := fun _ => DT (d7 × St)) (.ret (.exit id', s1)) (.ret (.normal, s1)) (Nat.beq id' id)).run = some (x, s') := h2
   show if id' = id then Q .normal ac' w' else Q (.exit id') ac' w'
   cases hb : Nat.beq id' id with
   | true =>
    rw [hb] at h2'
    have h3 : some (d7.normal, s1) = some (x, s') := h2'
    injection h3 with h3; injection h3 with e1 e2; subst e1 e2
    rw [if_pos (Nat.eq_of_beq_eq_true hb)]
    exact hQ _ _ hI'
   | false =>
    rw [hb] at h2'
    have h3 : some (d7.exit id', s1) = some (x, s') := h2'
    injection h3 with h3; injection h3 with e1 e2; subst e1 e2
    rw [if_neg (Nat.ne_of_beq_eq_false hb)]
    exact hQ _ _ hI'
 | loop keep ha ih =>
  intro s x s' he ac w Q hI hQ
  exact wp_loop_rounds E.N (qc5 ih E.N s x s' he ac w Q hI hQ)
 | scope ha ih =>
  intro s x s' he ac w Q hI hQ
  refine wp_scope_straight (ih s x s' he ac w (Exit.noGoto Q) hI fun ac' w' hI' => ?_)
  have := hQ ac' w' hI'
  cases x with
  | normal => exact this
  | exit id => exact this
  | ret => exact this
 | label l =>
  intro s x s' he ac w Q hI hQ
  have he' : some (d7.normal, s) = some (x, s') := he
  injection he' with he'; injection he' with e1 e2; subst e1 e2
  exact wp_label (hQ _ _ hI)
 | exit id =>
  intro s x s' he ac w Q hI hQ
  have he' : some (d7.exit id, s) = some (x, s') := he
  injection he' with he'; injection he' with e1 e2; subst e1 e2
  exact wp_exit (hQ _ _ hI)
 | ret =>
  intro s x s' he ac w Q hI hQ
  have he' : some (d7.ret, s) = some (x, s') := he
  injection he' with he'; injection he' with e1 e2; subst e1 e2
  exact wp_ret (hQ _ _ hI)
 | bad c =>
  intro s x s' he ac w Q hI hQ
  cases he
end
end
end Go.Ev
