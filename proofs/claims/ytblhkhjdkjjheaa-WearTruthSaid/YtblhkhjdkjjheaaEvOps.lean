/- The operations, one by one: first those that make and write no memory (own work). -/
import Derived.Test.YtblhkhjdkjjheaaEvInv
set_option linter.unusedVariables false
set_option linter.unusedSimpArgs false
set_option linter.unnecessarySimpa false
set_option linter.unusedSectionVars false
namespace Go.Ev
open Go
section
variable {W : Nat → Prop} {ρ : Rho} {H H' : List ABlk} {F : Fz} {w : World} {E : Env} {o : Oper} {a : List AVal} {ac : Act} {x : AVal}

theorem oneV_eq (x : Value) : oneV x = x.oneCell' := by cases x <;> rfl

theorem blkAt_some {id g : Nat} {b : ABlk} (h : blkAt H id g = some b) : H[id]? = some b ∧ b.dead = false ∧ b.g = g := by
  unfold blkAt at h
  rw [nth_eq] at h
  cases hb : H[id]? with
  | none => simp [hb] at h
  | some c =>
    simp only [hb] at h
    cases hd : c.dead with
    | true => simp [hd] at h
    | false =>
      simp only [hd] at h
      cases hg : Nat.beq c.g g with
      | false => simp [hg] at h
      | true =>
        simp [hg] at h
        subst h
        exact ⟨rfl, hd, Nat.eq_of_beq_eq_true hg⟩

theorem binA_ok {P : Program} {op : BinOp} {p q r : AVal} (he : (binA op p q).run = some r) : ∃ k m n v, p = .v (.int k m) ∧ q = .v (.int k n) ∧ r = .v v ∧ ∀ t W, (binOp op t (.int k m) (.int k n)).run P W = .ok v W := by
  unfold binA at he
  split at he
  · rename_i k m k' n
    split at he
    · rename_i hk
      subst hk
      refine ⟨k, m, n, ?_⟩
      split at he <;> first
        | (have he' := (Option.some.inj he); subst he'; exact ⟨_, rfl, rfl, rfl, fun t W => by simp [binOp, Op.intArith, Op.intCmp]⟩)
        | (rcases DT.run_ite_some he with ⟨_, he⟩ | ⟨h0, he⟩
           · cases he
           · have h0' : ¬ n = 0 := by simpa using h0
             have he' := (Option.some.inj he); subst he'; exact ⟨_, rfl, rfl, rfl, fun t W => by simp [binOp, Op.intDiv, h0']⟩)
        | cases he
    · cases he
  · cases he

theorem asType_ok {agg : Bool} {cs : List AVal} {y : AVal} (h : asType agg cs = some y) : (agg = true ∧ y = .agg cs) ∨ (agg = false ∧ ∃ z, cs = [z] ∧ y = z) := by
  unfold asType at h
  split at h
  · injection h with h; exact .inl ⟨rfl, h.symm⟩
  · split at h
    · injection h with h; exact .inr ⟨rfl, _, rfl, h.symm⟩
    · cases h

theorem inB_ok {n : Int} {len : Nat} (h : inB n len = true) : 0 ≤ n ∧ n < len ∧ n.toNat < len := by
  cases n with
  | ofNat k =>
    have : k < len := by have : k + 1 ≤ len := by simpa [inB, Nat.blt, Nat.ble_eq] using h
                         omega
    exact ⟨by simp, by simpa using this, by simpa using this⟩
  | negSucc k => cases h

theorem intOf_ok {p : AVal} {n : Int} {p' : Value} (h : intOf? p = some n) (hp : WRel ρ H F w p p') : ∃ k, p' = .int k n := by
  unfold intOf? at h
  split at h
  · rename_i k m
    injection h with h
    subst h
    exact ⟨k, inv_v hp⟩
  · cases h

theorem add_spot {ad : Addr} (hs : ad.spot = none) (k : Nat) : ad.add k = ⟨ad.block, ad.off + k, none⟩ := by
  obtain ⟨b, of, sp⟩ := ad
  simp at hs
  subst hs
  unfold Addr.add
  split
  · rename_i h0; simp [h0]
  · rfl

theorem szT_info {P : Program} {t : TypeId} {d : TypeDesc} (h : P.underlying t = some d) : ∃ i, P.info? t = some i ∧ i.size = szT P t := by
  unfold Program.underlying at h
  cases hi : P.info? t with
  | none => simp [hi] at h
  | some i => exact ⟨i, rfl, by simp [szT, hi]⟩

section
variable (hA : ARel ρ H F w a ac.tmps) (hH : HRel W ρ H F w) (hG : GOk E F w)
include hA hH hG

theorem sound_mv {y : Operand} (ho : o.op = .move y ∨ o.op = .assign y) (he : (evalOp E a H (.mv (cArg y))).run = some (x, H')) : OpGives E.P o ac w (Post W ρ H F w x H') := by
  have he' : some (evalA E a (cArg y), H) = some (x, H') := he
  injection he' with he'
  injection he' with h1 h2
  subst h1 h2
  refine .value (x' := ac.eval y) (w' := w) ?_ (.stay hH (evalA_ok hA hG y))
  rcases ho with ho | ho <;> simp [execOp, ho]

theorem sound_nilck {y : Operand} (ho : o.op = .nilCheck y) (he : (evalOp E a H (.nilck (cArg y))).run = some (x, H')) : OpGives E.P o ac w (Post W ρ H F w x H') := by
  have hy := evalA_ok hA hG y
  simp only [evalOp] at he
  revert he hy
  cases evalA E a (cArg y) with
  | ptr id i c g =>
    intro he hy
    have he' : some (AVal.ptr id i c g, H) = some (x, H') := he
    injection he' with he'; injection he' with h1 h2; subst h1 h2
    obtain ⟨ad, b, e, -⟩ := inv_ptr hy
    exact .value (x' := ac.eval y) (w' := w) (by simp [execOp, ho, e]) (.stay hH hy)
  | tptr cs =>
    intro he hy
    have he' : some (AVal.tptr cs, H) = some (x, H') := he
    injection he' with he'; injection he' with h1 h2; subst h1 h2
    obtain ⟨ad, vs, e, -⟩ := inv_tptr hy
    exact .value (x' := ac.eval y) (w' := w) (by simp [execOp, ho, e]) (.stay hH hy)
  | fn f caps =>
    intro he hy
    have he' : some (AVal.fn f caps, H) = some (x, H') := he
    injection he' with he'; injection he' with h1 h2; subst h1 h2
    obtain ⟨vs, e, -⟩ := inv_fn hy
    exact .value (x' := ac.eval y) (w' := w) (by simp [execOp, ho, e]) (.stay hH hy)
  | _ => intro he; cases he

theorem sound_pick {c y z : Operand} (ho : o.op = .pick c y z) (he : (evalOp E a H (.pick (cArg c) (cArg y) (cArg z))).run = some (x, H')) : OpGives E.P o ac w (Post W ρ H F w x H') := by
  have hc := evalA_ok hA hG c
  simp only [evalOp] at he
  revert he hc
  cases evalA E a (cArg c) with
  | v u =>
    cases u with
    | bool b =>
      intro he hc
      have e := inv_v hc
      rcases DT.run_ite_some he with ⟨rfl, he⟩ | ⟨rfl, he⟩
      · have he' : some (evalA E a (cArg y), H) = some (x, H') := he
        injection he' with he'; injection he' with h1 h2; subst h1 h2
        exact .value (x' := ac.eval y) (w' := w) (by simp [execOp, ho, e, asBool]) (.stay hH (evalA_ok hA hG y))
      · have he' : some (evalA E a (cArg z), H) = some (x, H') := he
        injection he' with he'; injection he' with h1 h2; subst h1 h2
        exact .value (x' := ac.eval z) (w' := w) (by simp [execOp, ho, e, asBool]) (.stay hH (evalA_ok hA hG z))
    | _ => intro he; cases he
  | _ => intro he; cases he

theorem sound_not {t : TypeId} {y : Operand} (ho : o.op = .unOp .not t y) (he : (evalOp E a H (.not (cArg y))).run = some (x, H')) : OpGives E.P o ac w (Post W ρ H F w x H') := by
  have hc := evalA_ok hA hG y
  simp only [evalOp] at he
  revert he hc
  cases evalA E a (cArg y) with
  | v u =>
    cases u with
    | bool b =>
      intro he hc
      have e := inv_v hc
      have he' : some (AVal.v (.bool (!b)), H) = some (x, H') := he
      injection he' with he'; injection he' with h1 h2; subst h1 h2
      exact .value (x' := .bool (!b)) (w' := w) (by simp [execOp, ho, e, Op.unary]) (.stay hH (.ofv _))
    | _ => intro he; cases he
  | _ => intro he; cases he

theorem sound_neg {t : TypeId} {y : Operand} (ho : o.op = .unOp .neg t y) (he : (evalOp E a H (.neg (cArg y))).run = some (x, H')) : OpGives E.P o ac w (Post W ρ H F w x H') := by
  have hc := evalA_ok hA hG y
  simp only [evalOp] at he
  revert he hc
  cases evalA E a (cArg y) with
  | v u =>
    cases u with
    | int k n =>
      intro he hc
      have e := inv_v hc
      have he' : some (AVal.v (.int k (k.wrap (0 - n))), H) = some (x, H') := he
      injection he' with he'; injection he' with h1 h2; subst h1 h2
      exact .value (x' := .int k (k.wrap (0 - n))) (w' := w) (by simp [execOp, ho, e, Op.unary, Op.intArith]) (.stay hH (.ofv _))
    | _ => intro he; cases he
  | _ => intro he; cases he

theorem sound_bin {op : BinOp} {t u : TypeId} {y z : Operand} (ho : o.op = .binOp op t y z u) (he : (evalOp E a H (.bin op (cArg y) (cArg z))).run = some (x, H')) : OpGives E.P o ac w (Post W ρ H F w x H') := by
  have hy := evalA_ok hA hG y
  have hz := evalA_ok hA hG z
  simp only [evalOp] at he
  obtain ⟨r, h1, h2⟩ := DT.run_bind_some he
  have he' : some (r, H) = some (x, H') := h2
  injection he' with he'; injection he' with e1 e2; subst e1 e2
  obtain ⟨k, m, n, v, hp, hq, rfl, hrun⟩ := binA_ok (P := E.P) h1
  rw [hp] at hy
  rw [hq] at hz
  refine .value (x' := v) (w' := w) ?_ (.stay hH (.ofv _))
  have hg : (eqGuard op t y z (.int k m) (.int k n)).run E.P w = .ok () w := by
    unfold eqGuard
    cases op <;> rfl
  simp [execOp, ho, inv_v hy, inv_v hz, hg, hrun]

theorem sound_ext {y : Operand} {i : Nat} (ho : o.op = .extract y i) (he : (evalOp E a H (.ext (cArg y) i)).run = some (x, H')) : OpGives E.P o ac w (Post W ρ H F w x H') := by
  have hy := evalA_ok hA hG y
  simp only [evalOp] at he
  revert he hy
  cases evalA E a (cArg y) with
  | tup vs =>
    intro he hy
    obtain ⟨z, h1, h2⟩ := opt_run he
    injection h2 with e1 e2; subst e1 e2
    rw [nth_eq] at h1
    obtain ⟨us, e, hl, h⟩ := inv_tup hy
    have hi : i < us.size := hl ▸ (List.getElem?_eq_some_iff.1 h1).1
    exact .value (x' := us[i]) (w' := w) (by simp [execOp, ho, e, Instr.extract, hi]) (.stay hH (.val (h i _ _ h1 (Array.getElem?_eq_getElem hi))))
  | _ => intro he; cases he

theorem sound_fld {s : TypeId} {y : Operand} {f : Nat} {fs : Array Field} {fd : Field} (ho : o.op = .fieldAddr s y f) (hs : E.P.underlying s = some (.struct fs)) (hf : fs[f]? = some fd)
    (hz : szT E.P fd.type ≠ 0) (he : (evalOp E a H (.fld fd.offset (cArg y))).run = some (x, H')) : OpGives E.P o ac w (Post W ρ H F w x H') := by
  have hy := evalA_ok hA hG y
  have hsz : ∃ i, E.P.info? fd.type = some i ∧ i.size ≠ 0 := by
    unfold szT at hz
    cases hi : E.P.info? fd.type with
    | none => simp [hi] at hz
    | some i => exact ⟨i, rfl, by simpa [hi] using hz⟩
  obtain ⟨ti, hi, hi0⟩ := hsz
  simp only [evalOp] at he
  revert he hy
  cases evalA E a (cArg y) with
  | ptr id i c g =>
    intro he hy
    have he' : some (AVal.ptr id i (c + fd.offset) g, H) = some (x, H') := he
    injection he' with he'; injection he' with h1 h2; subst h1 h2
    obtain ⟨ad, b, e, hb, hd, hg, hh⟩ := inv_ptr hy
    refine .value (x' := .pointer (some (ad.add fd.offset))) (w' := w) (by simp [execOp, ho, e, Instr.fieldAt, Instr.sureAddr, run_underlying hs, hf, fieldPlace, sizeOf, typeInfo, hi, hi0]) (.stay hH (.val (.cell (.ptr id i (c + fd.offset) g _ b hb hd hg fun hge => ?_))))
    rw [hh hge]
    unfold Addr.add
    split
    · rename_i h0; simp [h0]
    · simp; omega
  | tptr cs =>
    intro he hy
    have he' : some (AVal.tptr (dropN cs fd.offset), H) = some (x, H') := he
    injection he' with he'; injection he' with h1 h2; subst h1 h2
    obtain ⟨ad, vs, e, hsp, hF, hw, hr⟩ := inv_tptr hy
    have hadd : ad.add fd.offset = ⟨ad.block, ad.off + fd.offset, none⟩ := by
      obtain ⟨b, of, sp⟩ := ad
      simp at hsp
      subst hsp
      unfold Addr.add
      split
      · rename_i h0; simp [h0]
      · rfl
    refine .value (x' := .pointer (some (ad.add fd.offset))) (w' := w) (by simp [execOp, ho, e, Instr.fieldAt, Instr.sureAddr, run_underlying hs, hf, fieldPlace, sizeOf, typeInfo, hi, hi0]) (.stay hH ?_)
    rw [dropN_eq, hadd]
    refine .val (.cell (.tptr _ _ (fun c => vs (fd.offset + c)) rfl (fun c hc => ?_) (fun c hc => ?_) fun c hc => ?_))
    · have := hF (fd.offset + c) (by simp at hc; omega); simpa [Nat.add_assoc] using this
    · have := hw (fd.offset + c) (by simp at hc; omega); simpa [Nat.add_assoc] using this
    · simpa using hr (fd.offset + c) (by simp at hc; omega)
  | _ => intro he; cases he

theorem sound_idxA {t e : TypeId} {n : Nat} {y z : Operand} {ei : TypeInfo} (ho : o.op = .indexAddr t y z) (hu : E.P.underlying t = some (.array n e)) (hei : E.P.info? e = some ei)
    (he : (evalOp E a H (.idxA n (szT E.P e) (cArg y) (cArg z))).run = some (x, H')) : OpGives E.P o ac w (Post W ρ H F w x H') := by
  have hy := evalA_ok hA hG y
  have hz := evalA_ok hA hG z
  have hes : szT E.P e = ei.size := by simp [szT, hei]
  simp only [evalOp] at he
  revert he
  cases hm : intOf? (evalA E a (cArg z)) with
  | none => intro he; cases he
  | some m =>
  obtain ⟨k, ek⟩ := intOf_ok hm hz
  simp only
  revert hy
  cases evalA E a (cArg y) with
  | ptr id i c g =>
    intro hy he
    obtain ⟨hb0, he⟩ := DT.run_guard_some he
    have he' : some (AVal.ptr id i (c + m.toNat * szT E.P e) g, H) = some (x, H') := he
    injection he' with he'; injection he' with h1 h2; subst h1 h2
    obtain ⟨hm1, hm2, hm3⟩ := inB_ok hb0
    obtain ⟨ad, b, e0, hb, hd, hg, hh⟩ := inv_ptr hy
    refine .value (x' := .pointer (some (ad.add (m.toNat * ei.size)))) (w' := w) (by simp [execOp, ho, e0, ek, Instr.indexAt, Instr.sureAddr, asIntOf, run_underlying hu, sizeOf, typeInfo, hei, hm1, hm2]) (.stay hH (.val (.cell (.ptr _ _ _ _ _ b hb hd hg fun hge => ?_))))
    rw [hh hge, hes, add_spot rfl]
    simp; omega
  | tptr cs =>
    intro hy he
    obtain ⟨hb0, he⟩ := DT.run_guard_some he
    have he' : some (AVal.tptr (dropN cs (m.toNat * szT E.P e)), H) = some (x, H') := he
    injection he' with he'; injection he' with h1 h2; subst h1 h2
    obtain ⟨hm1, hm2, hm3⟩ := inB_ok hb0
    obtain ⟨ad, vs, e0, hsp, hF, hw, hr⟩ := inv_tptr hy
    refine .value (x' := .pointer (some (ad.add (m.toNat * ei.size)))) (w' := w) (by simp [execOp, ho, e0, ek, Instr.indexAt, Instr.sureAddr, asIntOf, run_underlying hu, sizeOf, typeInfo, hei, hm1, hm2]) (.stay hH ?_)
    rw [dropN_eq, hes, add_spot hsp]
    refine .val (.cell (.tptr _ _ (fun c => vs (m.toNat * ei.size + c)) rfl (fun c hc => ?_) (fun c hc => ?_) fun c hc => ?_))
    · have := hF (m.toNat * ei.size + c) (by simp at hc; omega); simpa [Nat.add_assoc] using this
    · have := hw (m.toNat * ei.size + c) (by simp at hc; omega); simpa [Nat.add_assoc] using this
    · simpa using hr (m.toNat * ei.size + c) (by simp at hc; omega)
  | _ => intro _ he; cases he

theorem sound_idxS {t e : TypeId} {y z : Operand} {ei : TypeInfo} (ho : o.op = .indexAddr t y z) (hu : E.P.underlying t = some (.slice e)) (hei : E.P.info? e = some ei)
    (he : (evalOp E a H (.idxS (szT E.P e) (cArg y) (cArg z))).run = some (x, H')) : OpGives E.P o ac w (Post W ρ H F w x H') := by
  have hy := evalA_ok hA hG y
  have hz := evalA_ok hA hG z
  have hes : szT E.P e = ei.size := by simp [szT, hei]
  simp only [evalOp] at he
  revert he
  cases hm : intOf? (evalA E a (cArg z)) with
  | none => intro he; cases he
  | some m =>
  obtain ⟨k, ek⟩ := intOf_ok hm hz
  simp only
  revert hy
  cases evalA E a (cArg y) with
  | sl id off n g =>
    intro hy he
    cases hbk : blkAt H id g with
    | none => simp [hbk] at he
    | some b =>
    obtain ⟨hb, hd, hg⟩ := blkAt_some hbk
    cases hbe : Nat.beq b.es (szT E.P e) with
    | false => simp [hbk, hbe] at he
    | true =>
    simp only [hbk, hbe] at he
    have hbes := Nat.eq_of_beq_eq_true hbe
    obtain ⟨hb0, he⟩ := DT.run_guard_some he
    have he' : some (AVal.ptr id (off + m.toNat) 0 g, H) = some (x, H') := he
    injection he' with he'; injection he' with h1 h2; subst h1 h2
    obtain ⟨hm1, hm2, hm3⟩ := inB_ok hb0
    obtain ⟨ad, cap, b', e0, hb', hd', hg', hn, hs, -, hh⟩ := inv_sl hy
    have : b' = b := Option.some.inj (hb'.symm.trans hb)
    subst this
    obtain ⟨h3, h4, h5⟩ := hh hg
    have hcap : cap ≠ 0 := by omega
    have had := h3.resolve_left (fun h => hcap h.1)
    refine .value (x' := .pointer (some (ad.add (m.toNat * ei.size)))) (w' := w) (by simp [execOp, ho, e0, ek, Instr.indexAt, asIntOf, run_underlying hu, sizeOf, typeInfo, hei, hm1, hm2]) (.stay hH (.val (.cell (.ptr _ _ _ _ _ b' hb hd (by omega) fun hge => ?_))))
    rw [had, add_spot rfl, hbes, hes, Nat.add_mul]
    simp; omega
  | tree es' n get =>
    intro hy he
    cases hbe : Nat.beq es' (szT E.P e) with
    | false => simp [hbe] at he
    | true =>
    simp only [hbe] at he
    have hbes := Nat.eq_of_beq_eq_true hbe
    obtain ⟨hb0, he⟩ := DT.run_guard_some he
    have he' : some (AVal.tptr (get m.toNat), H) = some (x, H') := he
    injection he' with he'; injection he' with h1 h2; subst h1 h2
    obtain ⟨hm1, hm2, hm3⟩ := inB_ok hb0
    have ht := inv_tree hy
    generalize hv : ac.eval y = v at *
    cases ht with
    | tree _ _ _ ad cap cs hs0 hcap hes' hF hw hr =>
    have hs := hs0 (by omega)
    refine .value (x' := .pointer (some (ad.add (m.toNat * ei.size)))) (w' := w) (by simp [execOp, ho, hv, ek, Instr.indexAt, asIntOf, run_underlying hu, sizeOf, typeInfo, hei, hm1, hm2]) (.stay hH ?_)
    rw [add_spot hs, ← hes, ← hbes]
    have hle := hes' _ hm3
    refine .val (.cell (.tptr _ _ (fun c => cs m.toNat c) rfl (fun c hc => ?_) (fun c hc => ?_) fun c hc => hr _ c hm3 hc))
    · have := hF m.toNat c hm3 (by omega); simpa [Nat.add_assoc] using this
    · have := hw m.toNat c hm3 (by omega); simpa [Nat.add_assoc] using this
    | nil => omega
  | _ => intro _ he; cases he
end
end
end Go.Ev

