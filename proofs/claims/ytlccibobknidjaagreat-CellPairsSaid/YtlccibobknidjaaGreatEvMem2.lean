/- Own work: a part of the proof. -/
import Derived.Test.YtlccibobknidjaaGreatEvInv
import Derived.Laws.CopyRow
import Derived.Laws.IdiomCopy
set_option linter.unusedVariables false
set_option linter.unusedSimpArgs false
set_option linter.unnecessarySimpa false
set_option linter.unusedSectionVars false
namespace Go.Ev
open Go
section
variable {W : Nat → Prop} {ρ : Rho} {H H' : List b8} {F : Fz} {w : World} {E : Env} {o : Oper} {a : List b7} {ac : Act} {x : b7}
theorem Pb9 (x : Value) : Bc7 x = x.oneCell' := by cases x <;> rfl
theorem r9 {id g : Nat} {b : b8} (h : blkAt H id g = some b) : H[id]? = some b ∧ b.dead = false ∧ b.g = g := by
  unfold blkAt at h
  rw [y6] at h
  cases hb : H[id]? with
  | none => simp [hb] at h
  | some c =>
    simp only [hb] at h
    cases hd : c.dead with
    | true => simp [hd] at h
    | false =>
      simp only [hd] at h
      cases hg : Nat.beq c.g g with
      | false => simp [hg] at h
      | true =>
        simp [hg] at h
        subst h
        exact ⟨rfl, hd, Nat.eq_of_beq_eq_true hg⟩
theorem Rd6 {P : Program} {op : BinOp} {p q r : b7} (he : (ee7 op p q).run = some r) : ∃ k m n v, p = .v (.int k m) ∧ q = .v (.int k n) ∧ r = .v v ∧ ∀ t W, (binOp op t (.int k m) (.int k n)).run P W = .ok v W := by
  unfold ee7 at he
  split at he
  · rename_i k m k' n
    split at he
    · rename_i hk
      subst hk
      refine ⟨k, m, n, ?_⟩
      split at he <;> first
        | (have he' := (Option.some.inj he); subst he'; exact ⟨_, rfl, rfl, rfl, fun t W => by simp [binOp, Op.intArith, Op.intCmp]⟩)
        | (rcases DT.run_ite_some he with ⟨_, he⟩ | ⟨h0, he⟩
           · cases he
           · have h0' : ¬ n = 0 := by simpa using h0
             have he' := (Option.some.inj he); subst he'; exact ⟨_, rfl, rfl, rfl, fun t W => by simp [binOp, Op.intDiv, h0']⟩)
        | cases he
    · cases he
  · cases he
theorem Eb3 {agg : Bool} {cs : List b7} {y : b7} (h : ib3 agg cs = some y) : (agg = true ∧ y = .agg cs) ∨ (agg = false ∧ ∃ z, cs = [z] ∧ y = z) := by
  unfold ib3 at h
  split at h
  · injection h with h; exact .inl ⟨rfl, h.symm⟩
  · split at h
    · injection h with h; exact .inr ⟨rfl, _, rfl, h.symm⟩
    · cases h
theorem xb3 {n : Int} {len : Nat} (h : inB n len = true) : 0 ≤ n ∧ n < len ∧ n.toNat < len := by
  cases n with
  | ofNat k =>
    have : k < len := by have : k + 1 ≤ len := by simpa [inB, Nat.blt, Nat.ble_eq] using h
                         omega
    exact ⟨by simp, by simpa using this, by simpa using this⟩
  | negSucc k => cases h
theorem mb2 {p : b7} {n : Int} {p' : Value} (h : fa6 p = some n) (hp : z8 ρ H F w p p') : ∃ k, p' = .int k n := by
  unfold fa6 at h
  split at h
  · rename_i k m
    injection h with h
    subst h
    exact ⟨k, Z1 hp⟩
  · cases h
theorem S9 {ad : Addr} (hs : ad.spot = none) (k : Nat) : ad.add k = ⟨ad.block, ad.off + k, none⟩ := by
  obtain ⟨b, of, sp⟩ := ad
  simp at hs
  subst hs
  unfold Addr.add
  split
  · rename_i h0; simp [h0]
  · rfl
theorem Ya4 {P : Program} {t : TypeId} {d : TypeDesc} (h : P.underlying t = some d) : ∃ i, P.info? t = some i ∧ i.size = szT P t := by
  unfold Program.underlying at h
  cases hi : P.info? t with
  | none => simp [hi] at h
  | some i => exact ⟨i, rfl, by simp [szT, hi]⟩
section
variable (hA : la1 ρ H F w a ac.tmps) (hH : s5 W ρ H F w) (hG : GOk E F w)
include hA hH hG
theorem Yc2 {y : Operand} (ho : o.op = .move y ∨ o.op = .assign y) (he : (evalOp E a H (.mv (g8 y))).run = some (x, H')) : j6 E.P o ac w (L9 W ρ H F w x H') := by
  have he' : some (c7 E a (g8 y), H) = some (x, H') := he
  injection he' with he'
  injection he' with h1 h2
  subst h1 h2
  refine .value (x' := ac.eval y) (w' := w) ?_ (.stay hH (l7 hA hG y))
  rcases ho with ho | ho <;> simp [execOp, ho]
theorem Yc3 {y : Operand} (ho : o.op = .nilCheck y) (he : (evalOp E a H (.nilck (g8 y))).run = some (x, H')) : j6 E.P o ac w (L9 W ρ H F w x H') := by
  have hy := l7 hA hG y
  simp only [evalOp] at he
  revert he hy
  cases c7 E a (g8 y) with
  | ptr id i c g =>
    intro he hy
    have he' : some (b7.ptr id i c g, H) = some (x, H') := he
    injection he' with he'; injection he' with h1 h2; subst h1 h2
    obtain ⟨ad, b, e, -⟩ := Ea3 hy
    exact .value (x' := ac.eval y) (w' := w) (by simp [execOp, ho, e]) (.stay hH hy)
  | tptr cs =>
    intro he hy
    have he' : some (b7.tptr cs, H) = some (x, H') := he
    injection he' with he'; injection he' with h1 h2; subst h1 h2
    obtain ⟨ad, vs, e, -⟩ := mb1 hy
    exact .value (x' := ac.eval y) (w' := w) (by simp [execOp, ho, e]) (.stay hH hy)
  | fn f caps =>
    intro he hy
    have he' : some (b7.fn f caps, H) = some (x, H') := he
    injection he' with he'; injection he' with h1 h2; subst h1 h2
    obtain ⟨vs, e, -⟩ := pb1 hy
    exact .value (x' := ac.eval y) (w' := w) (by simp [execOp, ho, e]) (.stay hH hy)
  | _ => intro he; cases he
theorem md0 {c y z : Operand} (ho : o.op = .pick c y z) (he : (evalOp E a H (.pick (g8 c) (g8 y) (g8 z))).run = some (x, H')) : j6 E.P o ac w (L9 W ρ H F w x H') := by
  have hc := l7 hA hG c
  simp only [evalOp] at he
  revert he hc
  cases c7 E a (g8 c) with
  | v u =>
    cases u with
    | bool b =>
      intro he hc
      have e := Z1 hc
      rcases DT.run_ite_some he with ⟨rfl, he⟩ | ⟨rfl, he⟩
      · have he' : some (c7 E a (g8 y), H) = some (x, H') := he
        injection he' with he'; injection he' with h1 h2; subst h1 h2
        exact .value (x' := ac.eval y) (w' := w) (by simp [execOp, ho, e, asBool]) (.stay hH (l7 hA hG y))
      · have he' : some (c7 E a (g8 z), H) = some (x, H') := he
        injection he' with he'; injection he' with h1 h2; subst h1 h2
        exact .value (x' := ac.eval z) (w' := w) (by simp [execOp, ho, e, asBool]) (.stay hH (l7 hA hG z))
    | _ => intro he; cases he
  | _ => intro he; cases he
theorem zd1 {t : TypeId} {y : Operand} (ho : o.op = .unOp .not t y) (he : (evalOp E a H (.not (g8 y))).run = some (x, H')) : j6 E.P o ac w (L9 W ρ H F w x H') := by
  have hc := l7 hA hG y
  simp only [evalOp] at he
  revert he hc
  cases c7 E a (g8 y) with
  | v u =>
    cases u with
    | bool b =>
      intro he hc
      have e := Z1 hc
      have he' : some (b7.v (.bool (!b)), H) = some (x, H') := he
      injection he' with he'; injection he' with h1 h2; subst h1 h2
      exact .value (x' := .bool (!b)) (w' := w) (by simp [execOp, ho, e, Op.unary]) (.stay hH (.ofv _))
    | _ => intro he; cases he
  | _ => intro he; cases he
theorem zd2 {t : TypeId} {y : Operand} (ho : o.op = .unOp .neg t y) (he : (evalOp E a H (.neg (g8 y))).run = some (x, H')) : j6 E.P o ac w (L9 W ρ H F w x H') := by
  have hc := l7 hA hG y
  simp only [evalOp] at he
  revert he hc
  cases c7 E a (g8 y) with
  | v u =>
    cases u with
    | int k n =>
      intro he hc
      have e := Z1 hc
      have he' : some (b7.v (.int k (k.wrap (0 - n))), H) = some (x, H') := he
      injection he' with he'; injection he' with h1 h2; subst h1 h2
      exact .value (x' := .int k (k.wrap (0 - n))) (w' := w) (by simp [execOp, ho, e, Op.unary, Op.intArith]) (.stay hH (.ofv _))
    | _ => intro he; cases he
  | _ => intro he; cases he
theorem zd3 {op : BinOp} {t u : TypeId} {y z : Operand} (ho : o.op = .binOp op t y z u) (he : (evalOp E a H (.bin op (g8 y) (g8 z))).run = some (x, H')) : j6 E.P o ac w (L9 W ρ H F w x H') := by
  have hy := l7 hA hG y
  have hz := l7 hA hG z
  simp only [evalOp] at he
  obtain ⟨r, h1, h2⟩ := DT.run_bind_some he
  have he' : some (r, H) = some (x, H') := h2
  injection he' with he'; injection he' with e1 e2; subst e1 e2
  obtain ⟨k, m, n, v, hp, hq, rfl, hrun⟩ := Rd6 (P := E.P) h1
  rw [hp] at hy
  rw [hq] at hz
  refine .value (x' := v) (w' := w) ?_ (.stay hH (.ofv _))
  have hg : (eqGuard op t y z (.int k m) (.int k n)).run E.P w = .ok () w := by
    unfold eqGuard
    cases op <;> rfl
  simp [execOp, ho, Z1 hy, Z1 hz, hg, hrun]
theorem zd4 {y : Operand} {i : Nat} (ho : o.op = .extract y i) (he : (evalOp E a H (.ext (g8 y) i)).run = some (x, H')) : j6 E.P o ac w (L9 W ρ H F w x H') := by
  have hy := l7 hA hG y
  simp only [evalOp] at he
  revert he hy
  cases c7 E a (g8 y) with
  | tup vs =>
    intro he hy
    obtain ⟨z, h1, h2⟩ := Ma0 he
    injection h2 with e1 e2; subst e1 e2
    rw [y6] at h1
    obtain ⟨us, e, hl, h⟩ := Oc6 hy
    have hi : i < us.size := hl ▸ (List.getElem?_eq_some_iff.1 h1).1
    exact .value (x' := us[i]) (w' := w) (by simp [execOp, ho, e, Instr.extract, hi]) (.stay hH (.val (h i _ _ h1 (Array.getElem?_eq_getElem hi))))
  | _ => intro he; cases he
theorem zd5 {s : TypeId} {y : Operand} {f : Nat} {fs : Array Field} {fd : Field} (ho : o.op = .fieldAddr s y f) (hs : E.P.underlying s = some (.struct fs)) (hf : fs[f]? = some fd)
    (hz : szT E.P fd.type ≠ 0) (he : (evalOp E a H (.fld fd.offset (g8 y))).run = some (x, H')) : j6 E.P o ac w (L9 W ρ H F w x H') := by
  have hy := l7 hA hG y
  have hsz : ∃ i, E.P.info? fd.type = some i ∧ i.size ≠ 0 := by
    unfold szT at hz
    cases hi : E.P.info? fd.type with
    | none => simp [hi] at hz
    | some i => exact ⟨i, rfl, by simpa [hi] using hz⟩
  obtain ⟨ti, hi, hi0⟩ := hsz
  simp only [evalOp] at he
  revert he hy
  cases c7 E a (g8 y) with
  | ptr id i c g =>
    intro he hy
    have he' : some (b7.ptr id i (c + fd.offset) g, H) = some (x, H') := he
    injection he' with he'; injection he' with h1 h2; subst h1 h2
    obtain ⟨ad, b, e, hb, hd, hg, hh⟩ := Ea3 hy
    refine .value (x' := .pointer (some (ad.add fd.offset))) (w' := w) (by simp [execOp, ho, e, Instr.fieldAt, Instr.sureAddr, run_underlying hs, hf, fieldPlace, sizeOf, typeInfo, hi, hi0]) (.stay hH (.val (.cell (.ptr id i (c + fd.offset) g _ b hb hd hg fun hge => ?_))))
    rw [hh hge]
    unfold Addr.add
    split
    · rename_i h0; simp [h0]
    · simp; omega
  | tptr cs =>
    intro he hy
    have he' : some (b7.tptr (d8 cs fd.offset), H) = some (x, H') := he
    injection he' with he'; injection he' with h1 h2; subst h1 h2
    obtain ⟨ad, vs, e, hsp, hF, hw, hr⟩ := mb1 hy
    have hadd : ad.add fd.offset = ⟨ad.block, ad.off + fd.offset, none⟩ := by
      obtain ⟨b, of, sp⟩ := ad
      simp at hsp
      subst hsp
      unfold Addr.add
      split
      · rename_i h0; simp [h0]
      · rfl
    refine .value (x' := .pointer (some (ad.add fd.offset))) (w' := w) (by simp [execOp, ho, e, Instr.fieldAt, Instr.sureAddr, run_underlying hs, hf, fieldPlace, sizeOf, typeInfo, hi, hi0]) (.stay hH ?_)
    rw [B9, hadd]
    refine .val (.cell (.tptr _ _ (fun c => vs (fd.offset + c)) rfl (fun c hc => ?_) (fun c hc => ?_) fun c hc => ?_))
    · have := hF (fd.offset + c) (by simp at hc; omega); simpa [Nat.add_assoc] using this
    · have := hw (fd.offset + c) (by simp at hc; omega); simpa [Nat.add_assoc] using this
    · simpa using hr (fd.offset + c) (by simp at hc; omega)
  | _ => intro he; cases he
theorem md1 {t e : TypeId} {n : Nat} {y z : Operand} {ei : TypeInfo} (ho : o.op = .indexAddr t y z) (hu : E.P.underlying t = some (.array n e)) (hei : E.P.info? e = some ei)
    (he : (evalOp E a H (.idxA n (szT E.P e) (g8 y) (g8 z))).run = some (x, H')) : j6 E.P o ac w (L9 W ρ H F w x H') := by
  have hy := l7 hA hG y
  have hz := l7 hA hG z
  have hes : szT E.P e = ei.size := by simp [szT, hei]
  simp only [evalOp] at he
  revert he
  cases hm : fa6 (c7 E a (g8 z)) with
  | none => intro he; cases he
  | some m =>
  obtain ⟨k, ek⟩ := mb2 hm hz
  simp only
  revert hy
  cases c7 E a (g8 y) with
  | ptr id i c g =>
    intro hy he
    obtain ⟨hb0, he⟩ := DT.run_guard_some he
    have he' : some (b7.ptr id i (c + m.toNat * szT E.P e) g, H) = some (x, H') := he
    injection he' with he'; injection he' with h1 h2; subst h1 h2
    obtain ⟨hm1, hm2, hm3⟩ := xb3 hb0
    obtain ⟨ad, b, e0, hb, hd, hg, hh⟩ := Ea3 hy
    refine .value (x' := .pointer (some (ad.add (m.toNat * ei.size)))) (w' := w) (by simp [execOp, ho, e0, ek, Instr.indexAt, Instr.sureAddr, asIntOf, run_underlying hu, sizeOf, typeInfo, hei, hm1, hm2]) (.stay hH (.val (.cell (.ptr _ _ _ _ _ b hb hd hg fun hge => ?_))))
    rw [hh hge, hes, S9 rfl]
    simp; omega
  | tptr cs =>
    intro hy he
    obtain ⟨hb0, he⟩ := DT.run_guard_some he
    have he' : some (b7.tptr (d8 cs (m.toNat * szT E.P e)), H) = some (x, H') := he
    injection he' with he'; injection he' with h1 h2; subst h1 h2
    obtain ⟨hm1, hm2, hm3⟩ := xb3 hb0
    obtain ⟨ad, vs, e0, hsp, hF, hw, hr⟩ := mb1 hy
    refine .value (x' := .pointer (some (ad.add (m.toNat * ei.size)))) (w' := w) (by simp [execOp, ho, e0, ek, Instr.indexAt, Instr.sureAddr, asIntOf, run_underlying hu, sizeOf, typeInfo, hei, hm1, hm2]) (.stay hH ?_)
    rw [B9, hes, S9 hsp]
    refine .val (.cell (.tptr _ _ (fun c => vs (m.toNat * ei.size + c)) rfl (fun c hc => ?_) (fun c hc => ?_) fun c hc => ?_))
    · have := hF (m.toNat * ei.size + c) (by simp at hc; omega); simpa [Nat.add_assoc] using this
    · have := hw (m.toNat * ei.size + c) (by simp at hc; omega); simpa [Nat.add_assoc] using this
    · simpa using hr (m.toNat * ei.size + c) (by simp at hc; omega)
  | _ => intro _ he; cases he
theorem md2 {t e : TypeId} {y z : Operand} {ei : TypeInfo} (ho : o.op = .indexAddr t y z) (hu : E.P.underlying t = some (.slice e)) (hei : E.P.info? e = some ei)
    (he : (evalOp E a H (.idxS (szT E.P e) (g8 y) (g8 z))).run = some (x, H')) : j6 E.P o ac w (L9 W ρ H F w x H') := by
  have hy := l7 hA hG y
  have hz := l7 hA hG z
  have hes : szT E.P e = ei.size := by simp [szT, hei]
  simp only [evalOp] at he
  revert he
  cases hm : fa6 (c7 E a (g8 z)) with
  | none => intro he; cases he
  | some m =>
  obtain ⟨k, ek⟩ := mb2 hm hz
  simp only
  revert hy
  cases c7 E a (g8 y) with
  | sl id off n g =>
    intro hy he
    cases hbk : blkAt H id g with
    | none => simp [hbk] at he
    | some b =>
    obtain ⟨hb, hd, hg⟩ := r9 hbk
    cases hbe : Nat.beq b.es (szT E.P e) with
    | false => simp [hbk, hbe] at he
    | true =>
    simp only [hbk, hbe] at he
    have hbes := Nat.eq_of_beq_eq_true hbe
    obtain ⟨hb0, he⟩ := DT.run_guard_some he
    have he' : some (b7.ptr id (off + m.toNat) 0 g, H) = some (x, H') := he
    injection he' with he'; injection he' with h1 h2; subst h1 h2
    obtain ⟨hm1, hm2, hm3⟩ := xb3 hb0
    obtain ⟨ad, cap, b', e0, hb', hd', hg', hn, hs, -, hh⟩ := Ba7 hy
    have : b' = b := Option.some.inj (hb'.symm.trans hb)
    subst this
    obtain ⟨h3, h4, h5⟩ := hh hg
    have hcap : cap ≠ 0 := by omega
    have had := h3.resolve_left (fun h => hcap h.1)
    refine .value (x' := .pointer (some (ad.add (m.toNat * ei.size)))) (w' := w) (by simp [execOp, ho, e0, ek, Instr.indexAt, asIntOf, run_underlying hu, sizeOf, typeInfo, hei, hm1, hm2]) (.stay hH (.val (.cell (.ptr _ _ _ _ _ b' hb hd (by omega) fun hge => ?_))))
    rw [had, S9 rfl, hbes, hes, Nat.add_mul]
    simp; omega
  | tree es' n get =>
    intro hy he
    cases hbe : Nat.beq es' (szT E.P e) with
    | false => simp [hbe] at he
    | true =>
    simp only [hbe] at he
    have hbes := Nat.eq_of_beq_eq_true hbe
    obtain ⟨hb0, he⟩ := DT.run_guard_some he
    have he' : some (b7.tptr (get m.toNat), H) = some (x, H') := he
    injection he' with he'; injection he' with h1 h2; subst h1 h2
    obtain ⟨hm1, hm2, hm3⟩ := xb3 hb0
    have ht := ra0 hy
    generalize hv : ac.eval y = v at *
    cases ht with
    | tree _ _ _ ad cap cs hs0 hcap hes' hF hw hr =>
    have hs := hs0 (by omega)
    refine .value (x' := .pointer (some (ad.add (m.toNat * ei.size)))) (w' := w) (by simp [execOp, ho, hv, ek, Instr.indexAt, asIntOf, run_underlying hu, sizeOf, typeInfo, hei, hm1, hm2]) (.stay hH ?_)
    rw [S9 hs, ← hes, ← hbes]
    have hle := hes' _ hm3
    refine .val (.cell (.tptr _ _ (fun c => cs m.toNat c) rfl (fun c hc => ?_) (fun c hc => ?_) fun c hc => hr _ c hm3 hc))
    · have := hF m.toNat c hm3 (by omega); simpa [Nat.add_assoc] using this
    · have := hw m.toNat c hm3 (by omega); simpa [Nat.add_assoc] using this
    | nil => omega
  | _ => intro _ he; cases he
end
end
end Go.Ev
namespace Go.Ev
open Go
section
variable {W : Nat → Prop} {ρ : Rho} {H H' : List b8} {F : Fz} {w : World} {E : Env} {o : Oper} {a : List b7} {ac : Act} {x : b7}
theorem Yc4 {P : Program} {t : TypeId} (h : szT P t ≠ 0) : ∃ i, P.info? t = some i ∧ i.size = szT P t := by
 unfold szT at *
 cases hi : P.info? t with
 | none => simp [hi] at h
 | some i => exact ⟨i, rfl, by simp⟩
theorem Ea4 {α : Type} {n : Nat} {f : Nat → α} {j : Nat} {v : α} (h : ((List.range n).map f)[j]? = some v) : j < n ∧ f j = v := by
 rw [List.getElem?_map] at h
 rcases Nat.lt_or_ge j n with hj | hj
 ·rw [List.getElem?_range hj] at h; exact ⟨hj, by simpa using h⟩
 ·rw [List.getElem?_eq_none (by simpa using hj)] at h; cases h
theorem Xa5 {P : Program} {t : TypeId} (h : agT P t = true) (w : World) : (isAgg t).run P w = .ok true w := by
 unfold agT at h
 split at h
 ·rename_i fs hu; simp [isAgg, run_underlying hu]
 ·rename_i n e hu; simp [isAgg, run_underlying hu]
 ·cases h
theorem Ja8 {P : Program} {t : TypeId} (h : agT P t = false) (hd : P.underlying t ≠ none) (w : World) : (isAgg t).run P w = .ok false w := by
 unfold agT at h
 cases hu : P.underlying t with
 | none => exact absurd hu hd
 | some d => cases d <;> simp [hu] at h <;> simp [isAgg, run_underlying hu]
theorem Ib6 (hH : s5 W ρ H F w) {p : b7} {p' : Value} {n : Nat} {cs : List b7} (hp : z8 ρ H F w p p') (he : Ev.loadCells H p n = some cs) :
  ∃ (ad : Addr) (vs : List Value), p' = .pointer (some ad) ∧ (0 < n → ad.spot = none) ∧ cs.length = n ∧ vs.length = n ∧ (∀ j v, vs[j]? = some v → w.cell? ⟨ad.block, ad.off + j, none⟩ = some v) ∧
   ∀ (j : Nat) x x', cs[j]? = some x → vs[j]? = some x' → U0 F w x x' := by
 revert he hp
 cases p with
 | ptr id i c g =>
  intro hp he
  simp only [Ev.loadCells] at he
  cases hbk : blkAt H id g with
  | none => simp [hbk] at he
  | some b =>
  obtain ⟨hb, hd, hg⟩ := r9 hbk
  simp only [hbk, y6] at he
  cases hr : b.elems[i]? with
  | none => simp [hr] at he
  | some cells =>
  simp only [hr, l6, B8, B9] at he
  cases hle : Nat.ble (c + n) cells.length with
  | false => simp [hle] at he
  | true =>
  simp only [hle] at he
  injection he with he
  have hle' : c + n ≤ cells.length := Nat.le_of_ble_eq_true hle
  obtain ⟨ad, b', e, hb', hd', hg', hh⟩ := Ea3 hp
  have : b' = b := Option.some.inj (hb'.symm.trans hb)
  subst this
  have had := hh hg
  obtain ⟨cc, t, fr, hB⟩ := hH.blk id b' hb hd
  have hcell : ∀ j, j < n → ∃ x', cc[(ρ id).off + (i * b'.es + (c + j))]? = some x' ∧ ∀ x, cells[c + j]? = some x → U0 F w x x' := fun j hj => by
   have hlt : c + j < cells.length := by omega
   obtain ⟨x', h1, h2⟩ := hB.cell i cells (c + j) _ hr (List.getElem?_eq_getElem hlt)
   exact ⟨x', h1, fun x hx => by rw [List.getElem?_eq_getElem hlt] at hx; injection hx with hx; subst hx; exact h2⟩
  have hsz : ∀ j, j < n → (ρ id).off + (i * b'.es + (c + j)) < cc.size := fun j hj => by
   obtain ⟨x', h1, _⟩ := hcell j hj
   exact (Array.getElem?_eq_some_iff.1 h1).1
  refine ⟨ad, (List.range n).map fun j => cc.getD ((ρ id).off + (i * b'.es + (c + j))) undef, e, fun _ => by rw [had], ?_, by simp, fun j v hj => ?_, fun j x x' hx hx' => ?_⟩
  ·rw [← he]; simp only [List.length_take, List.length_drop]; omega
  ·obtain ⟨hj1, hj2⟩ := Ea4 hj
   have hlt := hsz j hj1
   rw [had]
   rw [show (ρ id).off + (i * b'.es + c) + j = (ρ id).off + (i * b'.es + (c + j)) by omega, hB.cellAt, ← hj2]
   simp [hlt]
  ·obtain ⟨hj1, hj2⟩ := Ea4 hx'
   have hlt := hsz j hj1
   obtain ⟨x'', h1, h2⟩ := hcell j hj1
   rw [← he] at hx
   have hx0 : cells[c + j]? = some x := by
    rw [List.getElem?_take, if_pos hj1, List.getElem?_drop] at hx
    exact hx
   have := h2 x hx0
   rw [Array.getElem?_eq_getElem hlt] at h1
   injection h1 with h1
   rw [← hj2]
   simp [hlt, h1, this]
 | tptr l =>
  intro hp he
  simp only [Ev.loadCells, l6, B8] at he
  cases hle : Nat.ble n l.length with
  | false => simp [hle] at he
  | true =>
  simp only [hle] at he
  injection he with he
  have hle' : n ≤ l.length := Nat.le_of_ble_eq_true hle
  obtain ⟨ad, vs, e, hs, hF, hw, hr⟩ := mb1 hp
  refine ⟨ad, (List.range n).map vs, e, fun _ => hs, by rw [← he]; simp only [List.length_take]; omega, by simp, fun j v hj => ?_, fun j x x' hx hx' => ?_⟩
  ·obtain ⟨hj1, hj2⟩ := Ea4 hj
   rw [hw j (by omega), hj2]
  ·obtain ⟨hj1, hj2⟩ := Ea4 hx'
   rw [← he, List.getElem?_take] at hx
   simp only [hj1, if_true] at hx
   have hlt : j < l.length := by omega
   rw [List.getElem?_eq_getElem hlt] at hx
   injection hx with hx
   rw [← hx, ← hj2]
   exact hr j hlt
 | _ => intro _ he; cases he
theorem td4 {k : CK} {x : b7} (h : Hb0 k x = true) : yd7 k x = x ∨ ∃ es, k = .sl es ∧ x = .v (.slice none 0 0) := by
 unfold Hb0 at h
 split at h
 ·simp only [decide_eq_true_eq] at h; subst h; exact .inl rfl
 ·exact .inl rfl
 ·have := Nat.eq_of_beq_eq_true h; subst this; exact .inl rfl
 ·exact .inr ⟨_, rfl, rfl⟩
 ·exact .inl rfl
 ·cases h
theorem Gd0 {ρ : Rho} {H : List b8} {x' : Value} (h : z8 ρ H F w (.v (.slice none 0 0)) x') : x' = .slice none 0 0 := Z1 h
theorem Gd1 {k : CK} {y : b7} {x' : Value} (h : Hb0 k y = true) (hy : U0 F w y x') : U0 F w (yd7 k y) x' := by
 rcases td4 h with e | ⟨es, rfl, rfl⟩
 ·rw [e]; exact hy
 ·cases hy; exact .nil _ _
theorem zd6 {ρ : Rho} {H : List b8} {k : CK} {y : b7} {x' : Value} (h : Hb0 k y = true) (hy : U2 ρ H F w y x') : U2 ρ H F w (yd7 k y) x' := by
 rcases td4 h with e | ⟨es, rfl, rfl⟩
 ·rw [e]; exact hy
 ·have := Gd0 (.val (.cell hy)); subst this; exact .mem (.nil _ _)
theorem Eb4 : ∀ (ks : List CK) (cs : List b7), (vb9 ks cs).length = ks.length
 | [], _ => rfl
 | k :: ks, cs => congrArg Nat.succ (Eb4 ks (tlA cs))
theorem Yb9 : ∀ (ks : List CK) (cs : List b7), I0 ks cs = true → ∀ (j : Nat) x, (vb9 ks cs)[j]? = some x → j < ks.length ∧ ∃ k y, Hb0 k y = true ∧ x = yd7 k y ∧ (j < cs.length → cs[j]? = some y)
 | [], _, _, j, x, hx => by simp [vb9] at hx
 | k :: ks, cs, h, j, x, hx => by
  have h : Bool.and (Hb0 k (hdA cs)) (I0 ks (tlA cs)) = true := h
  have hx : (yd7 k (hdA cs) :: vb9 ks (tlA cs))[j]? = some x := hx
  have h' : Hb0 k (hdA cs) = true ∧ I0 ks (tlA cs) = true := by simpa using h
  cases j with
  | zero =>
   simp at hx
   refine ⟨by simp, k, hdA cs, h'.1, hx.symm, fun hc => ?_⟩
   cases cs with
   | nil => simp at hc
   | cons c r => rfl
  | succ j =>
   obtain ⟨h1, k', y, h2, h3, h4⟩ := Yb9 ks (tlA cs) h'.2 j x (by simpa using hx)
   refine ⟨by simp; omega, k', y, h2, h3, fun hc => ?_⟩
   cases cs with
   | nil => simp at hc
   | cons c r => simp only [List.getElem?_cons_succ]; exact h4 (by simpa [tlA] using hc)
theorem Yc5 {p : b7} {n : Nat} {q : Bool × List b7} (h : ob6 H p n = some q) (h1 : q.1 = true) : Ev.loadCells H p n = some (D6 q.2 n) ∧ n ≤ q.2.length := by
 revert h
 cases p with
 | ptr id i c g =>
  intro h
  simp only [ob6] at h
  cases hb : blkAt H id g with
  | none => simp [hb] at h
  | some b =>
  simp only [hb] at h
  injection h with h
  subst h
  simp only [Bool.and_eq_true] at h1
  have hi : i < b.elems.length := by have := Nat.le_of_ble_eq_true h1.1; rw [l6] at this; exact this
  have hr : d9 b.elems i = b.elems[i] := by simp [d9, y6, List.getElem?_eq_getElem hi]
  have h2 := h1.2
  rw [hr] at h2 ⊢
  refine ⟨by simp only [Ev.loadCells, hb, y6, List.getElem?_eq_getElem hi, h2], ?_⟩
  have := Nat.le_of_ble_eq_true h2
  rw [l6] at this
  rw [B9, List.length_drop]
  omega
 | tptr cs =>
  intro h
  injection h with h
  subst h
  have h1 : n.ble (len cs) = true := h1
  refine ⟨by simp only [Ev.loadCells]; rw [h1], ?_⟩
  have := Nat.le_of_ble_eq_true h1
  rwa [l6] at this
 | _ => intro h; cases h
theorem zd7 (hH : s5 W ρ H F w) {p : b7} {p' : Value} {n : Nat} {ks : List CK} {q : Bool × List b7} (hp : z8 ρ H F w p p') (he : ob6 H p n = some q) (hok : Bool.and q.1 (Bool.and (Nat.beq (len ks) n) (I0 ks q.2)) = true) :
  ∃ (ad : Addr) (vs : List Value), p' = .pointer (some ad) ∧ (0 < n → ad.spot = none) ∧ (vb9 ks q.2).length = n ∧ vs.length = n ∧ (∀ j v, vs[j]? = some v → w.cell? ⟨ad.block, ad.off + j, none⟩ = some v) ∧
   ∀ (j : Nat) x x', (vb9 ks q.2)[j]? = some x → vs[j]? = some x' → U0 F w x x' := by
 simp only [Bool.and_eq_true] at hok
 obtain ⟨h1, h2, h3⟩ := hok
 obtain ⟨h4, h5⟩ := Yc5 he h1
 have h2 := Nat.eq_of_beq_eq_true h2
 rw [l6] at h2
 obtain ⟨ad, vs, e, hs, hcl, hvl, hw, hr⟩ := Ib6 hH hp h4
 refine ⟨ad, vs, e, hs, by rw [Eb4, h2], hvl, hw, fun j x x' hx hx' => ?_⟩
 obtain ⟨hj, k, y, g1, rfl, g2⟩ := Yb9 ks q.2 h3 j x hx
 refine Gd1 g1 (hr j y x' ?_ hx')
 rw [B8, List.getElem?_take, if_pos (by omega)]
 exact g2 (by omega)
section
variable (hA : la1 ρ H F w a ac.tmps) (hH : s5 W ρ H F w) (hG : GOk E F w)
include hA hH hG
theorem md3 {ks : List CK} {t : TypeId} {y : Operand} (ho : o.op = .load t y) (hu : E.P.underlying t ≠ none)
  (he : (evalOp E a H (.load ks (szT E.P t) (agT E.P t) (g8 y))).run = some (x, H')) : j6 E.P o ac w (L9 W ρ H F w x H') := by
 have hy := l7 hA hG y
 simp only [evalOp] at he
 cases hl : ob6 H (c7 E a (g8 y)) (szT E.P t) with
 | none => rw [hl] at he; cases he
 | some q =>
 rw [hl] at he
 obtain ⟨hgd, he⟩ := DT.run_guard_some he
 obtain ⟨z, h1, h2⟩ := Ma0 he
 injection h2 with e1 e2; subst e1 e2
 obtain ⟨ad, vs, e, hs, hcl, hvl, hw, hr⟩ := zd7 hH hy hl hgd
 generalize vb9 ks q.2 = cs at *
 have hti : ∃ i, E.P.info? t = some i ∧ i.size = szT E.P t := by
  cases hd : E.P.underlying t with
  | none => exact absurd hd hu
  | some d => exact Ya4 hd
 obtain ⟨ti, hi1, hi2⟩ := hti
 rcases Eb3 h1 with ⟨hag, rfl⟩ | ⟨hag, z', rfl, rfl⟩
 ·refine .value (x' := .agg vs.toArray) (w' := w) ?_ (.stay hH (.val (.agg cs vs.toArray (by simp [hcl, hvl]) fun i x x' hx hx' => .mem (hr i x x' hx (by simpa using hx')))))
  have hlc : (Go.loadCells ad (szT E.P t)).run E.P w = .ok vs.toArray w := by
   rw [← hvl]
   refine run_loadCells_list (P := E.P) w ad vs fun j v hj => ?_
   have hj' : j < szT E.P t := by rw [← hvl]; exact (List.getElem?_eq_some_iff.1 hj).1
   rw [S9 (hs (by omega))]
   exact hw j v hj
  simp [execOp, ho, e, Instr.loadAt, Instr.sureAddr, loadVar, Xa5 hag, sizeOf, typeInfo, hi1, hi2, hlc]
 ·have h1 : szT E.P t = 1 := by simpa using hcl.symm
  have hv1 : vs.length = 1 := by omega
  obtain ⟨v, rfl⟩ : ∃ v, vs = [v] := by
   match vs, hv1 with
   | [v], _ => exact ⟨v, rfl⟩
  have hc := hw 0 v rfl
  have hsp := hs (by omega)
  have hcell : w.cell? ad = some v := by
   obtain ⟨b, of, sp⟩ := ad
   simp at hsp
   subst hsp
   simpa using hc
  refine .value (x' := v) (w' := w) ?_ (.stay hH (.val (.cell (.mem (hr 0 _ v rfl rfl)))))
  simp [execOp, ho, e, Instr.loadAt, Instr.sureAddr, loadVar, Ja8 hag hu, hcell]
end
theorem Zb0 (hH : s5 W ρ H F w) {id off n g : Nat} {b : b8} {y' : Value} {F' : Fz} (hbk : blkAt H id g = some b) (hy : z8 ρ H F w (.sl id off n g) y')
  (hmore : ∀ b o, F b o → F' b o) (hF' : ∀ o, o < b.elems.length * b.es → F' (ρ id).blk ((ρ id).off + o)) : U0 F' w (wb0 b off n) y' := by
 obtain ⟨hb, hd, hg⟩ := r9 hbk
 obtain ⟨ad, cap, b', e, hb', hd', hg', hn, hspot, -, hh⟩ := Ba7 hy
 have : b' = b := Option.some.inj (hb'.symm.trans hb)
 subst this
 obtain ⟨h3, h4, h5⟩ := hh hg
 obtain ⟨cc, t, fr, hB⟩ := hH.blk id b' hb hd
 rw [e]
 rcases Nat.eq_zero_or_pos n with hn0 | hn0
 ·subst hn0
  exact .tree b'.es 0 _ ad cap (fun _ _ => undef) (fun _ => hspot) hn (fun i hi => absurd hi (by omega)) (fun i c hi => absurd hi (by omega)) (fun i c hi => absurd hi (by omega)) (fun i c hi => absurd hi (by omega))
 ·have had := h3.resolve_left (by omega)
  have hrow : ∀ i, i < n → ∃ r, b'.elems[off + i]? = some r ∧ d9 b'.elems (off + i) = r ∧ r.length = b'.es := fun i hi => by
   have hlt : off + i < b'.elems.length := by omega
   exact ⟨_, List.getElem?_eq_getElem hlt, by simp [d9, y6, List.getElem?_eq_getElem hlt], hB.rows _ _ (List.getElem?_eq_getElem hlt)⟩
  have hbound : ∀ i c, i < n → c < b'.es → (off + i) * b'.es + c < b'.elems.length * b'.es := fun i c hi hc => by
   have h1 : (off + i + 1) * b'.es ≤ b'.elems.length * b'.es := Nat.mul_le_mul_right _ (by omega)
   rw [Nat.add_mul] at h1
   omega
  have hoff : ∀ i c, (ρ id).off + off * b'.es + (i * b'.es + c) = (ρ id).off + ((off + i) * b'.es + c) := fun i c => by rw [Nat.add_mul off i]; omega
  refine .tree b'.es n _ ad cap (fun i c => cc.getD ((ρ id).off + ((off + i) * b'.es + c)) undef) (fun _ => by rw [had]) hn (fun i hi => ?_) (fun i c hi hc => ?_) (fun i c hi hc => ?_) (fun i c hi hc => ?_)
  ·obtain ⟨r, h1, h2, h6⟩ := hrow i hi
   rw [h2]; exact h6
  ·rw [had]; simp only; rw [hoff]; exact hF' _ (hbound i c hi hc)
  ·rw [had]; simp only; rw [hoff, hB.cellAt]
   have := hB.room; have := hB.len; have := hbound i c hi hc
   have hlt : (ρ id).off + ((off + i) * b'.es + c) < cc.size := by omega
   simp [hlt]
  ·obtain ⟨r, h1, h2, h6⟩ := hrow i hi
   have hc' : c < r.length := by rw [← h2]; exact hc
   obtain ⟨x', h7, h8⟩ := hB.cell (off + i) r c _ h1 (List.getElem?_eq_getElem hc')
   have hlt := (Array.getElem?_eq_some_iff.1 h7).1
   rw [Array.getElem?_eq_getElem hlt] at h7
   injection h7 with h7
   have e9 : cc.getD ((ρ id).off + ((off + i) * b'.es + c)) undef = x' := by simp [hlt, h7]
   have e10 : (d9 b'.elems (off + i))[c] = r[c] := by congr 1
   rw [e9, e10]
   exact h8.adv hmore (fun _ _ _ => rfl)
theorem Ib7 (hH : s5 W ρ H F w) {y z : b7} {y' : Value} (hy : U2 ρ H F w y y') (he : freezeCell H y = some (z, H')) :
  ∃ F', Adv W ρ H F w ρ H' F' w ∧ s5 W ρ H' F' w ∧ U0 F' w z y' ∧ H'.length = H.length := by
 revert he hy
 cases y with
 | v u =>
  intro hy he
  simp only [freezeCell] at he
  cases h1 : Bc7 u with
  | false => simp [h1] at he
  | true =>
  simp only [h1] at he
  injection he with he; injection he with e1 e2; subst e1 e2
  have := Z1 (.val (.cell hy))
  subst this
  exact ⟨F, .refl, hH, .v _ (by rw [← Pb9]; exact h1), rfl⟩
 | tree es n get =>
  intro hy he
  injection he with he; injection he with e1 e2; subst e1 e2
  exact ⟨F, .refl, hH, ra0 (.val (.cell hy)), rfl⟩
 | fn f caps =>
  intro hy he
  cases caps with
  | cons => cases he
  | nil =>
   injection he with he; injection he with e1 e2; subst e1 e2
   cases hy with
   | mem h => exact ⟨F, .refl, hH, h, rfl⟩
 | sl id off n g =>
  intro hy he
  simp only [freezeCell] at he
  cases hbk : blkAt H id g with
  | none => simp [hbk] at he
  | some b =>
  obtain ⟨hb, hd, hg⟩ := r9 hbk
  simp only [hbk] at he
  injection he with he; injection he with e1 e2
  have hdis : disown H id = H.set id { b with own := false } := by
   simp [disown, modAt, y6, hb, z6]
  rw [hdis] at e2
  subst e1 e2
  obtain ⟨F', hadv, hH', hF'⟩ := hH.disown id b hb hd
  exact ⟨F', hadv, hH', Zb0 hH hbk (.val (.cell hy)) hadv.more hF', by simp⟩
 | _ => intro _ he; cases he
theorem Ya5 (hH : s5 W ρ H F w) {ys zs : List b7} {vs : List Value} (hl : ys.length = vs.length) (hy : ∀ (i : Nat) y y', ys[i]? = some y → vs[i]? = some y' → U2 ρ H F w y y') (he : freezeCells H ys = some (zs, H')) :
  ∃ F', Adv W ρ H F w ρ H' F' w ∧ s5 W ρ H' F' w ∧ zs.length = ys.length ∧ (∀ (i : Nat) z y', zs[i]? = some z → vs[i]? = some y' → U0 F' w z y') ∧ H'.length = H.length := by
 induction ys generalizing H F zs vs with
 | nil =>
  simp only [freezeCells] at he
  injection he with he; injection he with e1 e2; subst e1 e2
  exact ⟨F, .refl, hH, rfl, fun i z y' h => by simp at h, rfl⟩
 | cons y r ih =>
  cases vs with
  | nil => simp at hl
  | cons v vs =>
  simp only [freezeCells] at he
  cases h1 : freezeCell H y with
  | none => simp [h1] at he
  | some p =>
  obtain ⟨y1, H1⟩ := p
  simp only [h1] at he
  cases h2 : freezeCells H1 r with
  | none => simp [h2] at he
  | some q =>
  obtain ⟨l, H2⟩ := q
  simp only [h2] at he
  injection he with he; injection he with e1 e2; subst e1 e2
  obtain ⟨F1, a1, hH1, m1, l1⟩ := Ib7 hH (hy 0 y v rfl rfl) h1
  obtain ⟨F2, a2, hH2, l2, m2, l3⟩ := ih hH1 (vs := vs) (by simpa using hl) (fun i x x' hx hx' => (hy (i + 1) x x' (by simpa using hx) (by simpa using hx')).adv a1) h2
  refine ⟨F2, a1.trans a2, hH2, by simp [l2], fun i z z' hz hz' => ?_, l3.trans l1⟩
  cases i with
  | zero =>
   simp at hz hz'
   subst hz hz'
   exact m1.adv a2.more a2.ext.cells
  | succ i => exact m2 i z z' (by simpa using hz) (by simpa using hz')
theorem Qb0 {y : b7} {y' : Value} (hy : z8 ρ H F w y y') (hp : Ja6 y = true) (hn : ∀ cs, y ≠ .agg cs) : U2 ρ H F w y y' ∧ y'.cells = #[y'] := by
 cases hy with
 | tup => cases hp
 | val h => cases h with
  | agg cs => exact absurd rfl (hn cs)
  | fn f caps vs hl h =>
   cases caps with
   | cons => cases hp
   | nil =>
    have : vs = #[] := by simpa using hl.symm
    subst this
    exact ⟨.mem (.fn f), rfl⟩
  | cell h =>
   refine ⟨h, ?_⟩
   have hv : ∀ x : Value, x.oneCell' = true → x.cells = #[x] := fun x hx => by cases x <;> first | rfl | cases hx
   cases h with
   | mem h => exact hv _ h.one
   | v => exact hv _ (by rw [← Pb9]; exact hp)
   | ptr => rfl
   | sl => rfl
   | tptr => rfl
   | unk => cases hp
theorem Eb5 {y : b7} {y' : Value} (hy : z8 ρ H F w y y') (hp : Ja6 y = true) :
  (A0 y).length = y'.cells.toList.length ∧ ∀ (i : Nat) z z', (A0 y)[i]? = some z → y'.cells.toList[i]? = some z' → U2 ρ H F w z z' := by
 by_cases hn : ∀ cs, y ≠ .agg cs
 ·obtain ⟨h1, h2⟩ := Qb0 hy hp hn
  have ha : A0 y = [y] := by
   cases y with
   | agg cs => exact absurd rfl (hn cs)
   | _ => rfl
  rw [ha, h2]
  refine ⟨rfl, fun i z z' hz hz' => ?_⟩
  cases i with
  | zero => simp at hz hz'; subst hz hz'; exact h1
  | succ i => simp at hz
 ·have : ∃ cs, y = .agg cs := Classical.byContradiction fun h => hn fun cs e => h ⟨cs, e⟩
  obtain ⟨cs, rfl⟩ := this
  obtain ⟨vs, rfl, hl, h⟩ := Aa2 hy
  exact ⟨by simpa [A0, Value.cells] using hl, fun i z z' hz hz' => h i z z' hz (by simpa [Value.cells] using hz')⟩
theorem Yc6 {y : b7} {zs : List b7} (he : freezeCells H (A0 y) = some (zs, H')) : Ja6 y = true := by
 cases y with
 | v u =>
  simp only [A0, freezeCells, freezeCell] at he
  cases h1 : Bc7 u with
  | true => simpa [Ja6] using h1
  | false => simp [h1] at he
 | tup => simp [A0, freezeCells, freezeCell] at he
 | unk => simp [A0, freezeCells, freezeCell] at he
 | fn f caps =>
  cases caps with
  | nil => rfl
  | cons => simp [A0, freezeCells, freezeCell] at he
 | _ => rfl
theorem Qb1 (hH : s5 W ρ H F w) {y : b7} {y' : Value} {zs : List b7} (hy : z8 ρ H F w y y') (he : freezeCells H (A0 y) = some (zs, H')) :
  ∃ F', Adv W ρ H F w ρ H' F' w ∧ s5 W ρ H' F' w ∧ zs.length = y'.cells.toList.length ∧ (∀ (i : Nat) z z', zs[i]? = some z → y'.cells.toList[i]? = some z' → U0 F' w z z') ∧ H'.length = H.length := by
 obtain ⟨h1, h2⟩ := Eb5 hy (Yc6 he)
 obtain ⟨F', h3, h4, h5, h6, h7⟩ := Ya5 hH h1 h2 he
 exact ⟨F', h3, h4, by rw [h5, h1], h6, h7⟩
theorem Zb1 (H : List b8) (et es : Nat) (elems : List (List b7)) : la0 H et es elems = H ++ [{ et, es, elems, own := true, dead := false, g := 0 }] := by
 simp [la0, C0]
theorem s5.alloc1 (h : s5 W ρ H F w) (cs : List b7) (vs : Array Value) (t : TypeId) (hl : cs.length = vs.toList.length) (hm : ∀ (i : Nat) z z', cs[i]? = some z → vs.toList[i]? = some z' → U0 F w z z') :
  L9 W ρ H F w (.ptr H.length 0 0 0) (la0 H 0 cs.length [cs]) (.pointer (some ⟨w.heap.size, 0, none⟩)) (w.alloc (.cells vs t)) := by
 have hl' : cs.length = vs.size := by simpa using hl
 obtain ⟨h1, h2⟩ := h.alloc 0 cs.length [cs] vs t (fun i r hr => by
   cases i with
   | zero => simp at hr; subst hr; rfl
   | succ i => simp at hr) (by simp [hl']) (fun i r c z hr hz => by
   cases i with
   | zero =>
    simp at hr; subst hr
    have hc : c < vs.size := hl' ▸ (List.getElem?_eq_some_iff.1 hz).1
    exact ⟨vs[c], by simp [hc], hm c z _ hz (by simp [hc])⟩
   | succ i => simp at hr) (fun h => absurd rfl h)
 rw [Zb1]
 refine ⟨_, F, h1, h2, .val (.cell (.ptr _ _ _ _ _ { et := 0, es := cs.length, elems := [cs], own := true, dead := false, g := 0 } (by simp) rfl (Nat.le_refl _) fun _ => ?_))⟩
 simp [ρnew]
section
variable (hA : la1 ρ H F w a ac.tmps) (hH : s5 W ρ H F w) (hG : GOk E F w)
include hA hH hG
omit hA hG in
theorem fc2 {t : TypeId} {z : List b7} (ho : o.op = .alloc t) (hz : zeT E.P t = some z) (he : (evalOp E a H (.alloc z)).run = some (x, H')) : j6 E.P o ac w (L9 W ρ H F w x H') := by
 have he' : some (b7.ptr (len H) 0 0 0, la0 H 0 (len z) [z]) = some (x, H') := he
 injection he' with he'; injection he' with e1 e2; subst e1 e2
 rw [l6, l6]
 unfold zeT at hz
 cases hi : E.P.info? t with
 | none => simp [hi] at hz
 | some i =>
 cases hzz : i.zero with
 | none => simp [hi, hzz] at hz
 | some zv =>
 simp only [hi, hzz] at hz
 split at hz
 ·rename_i hall
  injection hz with hz
  subst hz
  refine .value (x' := .pointer (some ⟨w.heap.size, 0, none⟩)) (w' := w.alloc (.cells zv.cells t)) (by simp [execOp, ho, Instr.alloc, zeroValue, typeInfo, hi, hzz, newVar, newRow]) ?_
  refine s5.alloc1 hH _ zv.cells t (by simp) fun i z z' h1 h2 => ?_
  rw [List.getElem?_map] at h1
  rw [h2] at h1
  simp at h1
  subst h1
  refine .v _ ?_
  rw [← Pb9]
  exact List.all_eq_true.1 hall z' (List.mem_of_getElem? h2)
 ·cases hz
theorem zd8 {t : TypeId} {y : Operand} (ho : o.op = .box t y) (he : (evalOp E a H (.box (g8 y))).run = some (x, H')) : j6 E.P o ac w (L9 W ρ H F w x H') := by
 have hy := l7 hA hG y
 simp only [evalOp] at he
 cases hf : freezeCells H (A0 (c7 E a (g8 y))) with
 | none => rw [hf] at he; cases he
 | some p =>
 obtain ⟨cs, H1⟩ := p
 rw [hf] at he
 have he' : some (b7.ptr (len H1) 0 0 0, la0 H1 0 (len cs) [cs]) = some (x, H') := he
 injection he' with he'; injection he' with e1 e2; subst e1 e2
 rw [l6, l6]
 obtain ⟨F1, a1, hH1, hl, hm, hlen⟩ := Qb1 hH hy hf
 refine .value (x' := .pointer (some ⟨w.heap.size, 0, none⟩)) (w' := w.alloc (.cells (ac.eval y).cells t)) (by simp [execOp, ho, Instr.box, newVar, newRow]) ?_
 obtain ⟨ρ', F', h1, h2, h3⟩ := s5.alloc1 hH1 cs (ac.eval y).cells t hl hm
 exact ⟨ρ', F', a1.trans h1, h2, h3⟩
omit hA hH hG in
theorem Lb3 {l new : List b7} {c k : Nat} {z : b7} (hfit : c + new.length ≤ l.length) (h : (I1 l c new)[k]? = some z) : (c ≤ k ∧ k < c + new.length ∧ new[k - c]? = some z) ∨ ((k < c ∨ c + new.length ≤ k) ∧ l[k]? = some z) := by
 unfold I1 at h
 rw [C0, C0, B8, B9, l6] at h
 rcases Nat.lt_or_ge k c with hk | hk
 ·rw [List.getElem?_append_left (by simp; omega), List.getElem?_take, if_pos hk] at h
  exact .inr ⟨.inl hk, h⟩
 ·rw [List.getElem?_append_right (by simp; omega)] at h
  have e : k - (l.take c).length = k - c := by simp; omega
  rw [e] at h
  rcases Nat.lt_or_ge k (c + new.length) with hk2 | hk2
  ·rw [List.getElem?_append_left (by omega)] at h
   exact .inl ⟨hk, hk2, h⟩
  ·rw [List.getElem?_append_right (by omega), List.getElem?_drop] at h
   exact .inr ⟨.inr hk2, by rwa [show c + new.length + (k - c - new.length) = k by omega] at h⟩
omit hA hH hG in
theorem Ma1 {l new : List b7} {c : Nat} (hfit : c + new.length ≤ l.length) : (I1 l c new).length = l.length := by
 unfold I1
 rw [C0, C0, B8, B9, l6]
 simp
 omega
omit hA hH hG in
theorem pb2 {l : Array Value} {new : List Value} {c k : Nat} (hfit : c + new.length ≤ l.size) :
  ((l.toList.take c ++ new ++ l.toList.drop (c + new.length)).toArray)[k]? = if c ≤ k ∧ k < c + new.length then new[k - c]? else l[k]? := by
 simp only [List.getElem?_toArray]
 rcases Nat.lt_or_ge k c with hk | hk
 ·rw [if_neg (by omega), List.append_assoc, List.getElem?_append_left (by simp; omega), List.getElem?_take, if_pos hk]
  simp
 ·rcases Nat.lt_or_ge k (c + new.length) with hk2 | hk2
  ·rw [if_pos ⟨hk, hk2⟩, List.append_assoc, List.getElem?_append_right (by simp; omega), List.getElem?_append_left (by simp; omega)]
   congr 1
   simp; omega
  ·rw [if_neg (by omega), List.getElem?_append_right (by simp; omega), List.getElem?_drop]
   rw [show c + new.length + (k - (l.toList.take c ++ new).length) = k by simp; omega]
   simp
theorem Yc7 {t : TypeId} {y z : Operand} (ho : o.op = .store t y z) (h0 : szT E.P t ≠ 0) (he : (evalOp E a H (.store (szT E.P t) (g8 y) (g8 z))).run = some (x, H')) : j6 E.P o ac w (L9 W ρ H F w x H') := by
 have hy := l7 hA hG y
 have hz := l7 hA hG z
 simp only [evalOp] at he
 revert he hy
 cases c7 E a (g8 y) with
 | ptr id i c g =>
  intro he hy
  cases hf : freezeCells H (A0 (c7 E a (g8 z))) with
  | none => simp [hf] at he
  | some p =>
  obtain ⟨cs, H1⟩ := p
  simp only [hf] at he
  cases hbk : blkAt H1 id g with
  | none => simp [hbk] at he
  | some b =>
  simp only [hbk] at he
  obtain ⟨hc, he⟩ := DT.run_guard_some he
  simp only [Bool.and_eq_true] at hc
  obtain ⟨⟨hown, hn⟩, hilt0, hfit⟩ := hc
  have hilt0 : i < b.elems.length := by have := Nat.le_of_ble_eq_true hilt0; rw [l6] at this; exact this
  have hr : b.elems[i]? = some (d9 b.elems i) := by simp [d9, y6, List.getElem?_eq_getElem hilt0]
  generalize d9 b.elems i = cells at *
  simp only [l6, z6] at he hn hfit
  have he' : some (b7.v (.tuple #[]), H1.set id { b with elems := b.elems.set i (I1 cells c cs) }) = some (x, H') := he
  injection he' with he'; injection he' with e1 e2; subst e1 e2
  have hn := Nat.eq_of_beq_eq_true hn
  have hfit : c + szT E.P t ≤ cells.length := Nat.le_of_ble_eq_true hfit
  rw [← hn] at hfit
  obtain ⟨F1, a1, hH1, hl, hm, hlen⟩ := Qb1 hH hz hf
  obtain ⟨hb, hd, hg⟩ := r9 hbk
  obtain ⟨ad, b', e, hb', hd', hg', hh⟩ := Ea3 (hy.adv a1)
  have : b' = b := Option.some.inj (hb'.symm.trans hb)
  subst this
  have had := hh hg
  obtain ⟨cc, tt, fr, hB⟩ := hH1.blk id b' hb hd
  obtain ⟨hfr, hW, hoff, hsize, hnF, het⟩ := hB.own hown
  subst hfr
  have hrl := hB.rows i cells hr
  have hilt := (List.getElem?_eq_some_iff.1 hr).1
  have hbnd : i * b'.es + b'.es ≤ b'.elems.length * b'.es := by
   have := Nat.mul_le_mul_right b'.es (show i + 1 ≤ b'.elems.length from hilt)
   rwa [Nat.add_mul, Nat.one_mul] at this
  have hlenB := hB.len
  have hl2 : (ac.eval z).cells.toList.length = cs.length := hl.symm
  have hone : ∀ v ∈ (ac.eval z).cells.toList, v.oneCell' = true := fun v hv => by
   obtain ⟨k, hk, rfl⟩ := List.mem_iff_getElem.1 hv
   have hk' : k < cs.length := by omega
   exact (hm k _ _ (List.getElem?_eq_getElem hk') (List.getElem?_eq_getElem hk)).one
  have hfits : i * b'.es + c + (ac.eval z).cells.toList.length ≤ cc.size := by rw [hl2]; omega
  have hstore := run_storeCells_at (P := E.P) (ρ id).blk (i * b'.es + c) tt (ac.eval z).cells.toList 0 cc w hB.obj (by simpa using hfits) hone
  simp only [Nat.add_zero] at hstore
  obtain ⟨ti, hi1, hi2⟩ := Yc4 h0
  have hsz0 : (ac.eval z).cells.size = ti.size := by rw [hi2, ← hn, ← hl2]; simp
  have had' : ad = ⟨(ρ id).blk, i * b'.es + c, none⟩ := by rw [had, hoff, Nat.zero_add]
  refine .skip (w' := w.setRow (ρ id).blk (cc.toList.take (i * b'.es + c) ++ (ac.eval z).cells.toList ++ cc.toList.drop (i * b'.es + c + (ac.eval z).cells.toList.length)).toArray) ?_ ?_
  ·simp [execOp, ho, e, had', Instr.storeAt, Instr.sureAddr, storeVar, sizeOf, typeInfo, hi1, hsz0, hstore]
  ·have hget : ∀ (i' : Nat) r, (b'.elems.set i (I1 cells c cs))[i']? = some r → (i' = i ∧ r = I1 cells c cs) ∨ (i' ≠ i ∧ b'.elems[i']? = some r) := fun i' r hr' => by
    by_cases e : i = i'
    ·subst e; simp [hilt] at hr'; exact .inl ⟨rfl, hr'.symm⟩
    ·rw [List.getElem?_set_ne e] at hr'; exact .inr ⟨fun h => e h.symm, hr'⟩
   obtain ⟨h3, h4⟩ := hH1.rewrite id b' { b' with elems := b'.elems.set i (I1 cells c cs) } hb hd hown cc tt hB
    (cc.toList.take (i * b'.es + c) ++ (ac.eval z).cells.toList ++ cc.toList.drop (i * b'.es + c + (ac.eval z).cells.toList.length)).toArray
    (by simp at hfits ⊢; omega) rfl rfl hown hd (Nat.le_refl _) (fun _ => by simp) (by simpa using hlenB)
    (fun i' r hr' => by
     rcases hget i' r hr' with ⟨rfl, rfl⟩ | ⟨_, hr''⟩
     ·rw [Ma1 hfit]; exact hrl
     ·exact hB.rows i' r hr'')
    (fun i' r k u hr' hu => by
     rw [pb2 hfits]
     rcases hget i' r hr' with ⟨rfl, rfl⟩ | ⟨hne, hr''⟩
     ·rcases Lb3 hfit hu with ⟨h1, h2, h3⟩ | ⟨h1, h3⟩
      ·rw [if_pos (by omega)]
       have hk : k - c < (ac.eval z).cells.toList.length := by omega
       refine ⟨(ac.eval z).cells.toList[k - c], ?_, hm (k - c) u _ h3 (List.getElem?_eq_getElem hk)⟩
       rw [show i' * b'.es + k - (i' * b'.es + c) = k - c by omega, List.getElem?_eq_getElem hk]
      ·have hk := (List.getElem?_eq_some_iff.1 h3).1
       rw [if_neg (by omega)]
       have := hB.cell i' cells k u hr h3
       rwa [hoff, Nat.zero_add] at this
     ·have hk : k < b'.es := by rw [← hB.rows i' r hr'']; exact (List.getElem?_eq_some_iff.1 hu).1
      have hnot : ¬ (i * b'.es + c ≤ i' * b'.es + k ∧ i' * b'.es + k < i * b'.es + c + (ac.eval z).cells.toList.length) := by
       rcases Nat.lt_or_ge i' i with hlt | hge
       ·have := Nat.mul_le_mul_right b'.es (show i' + 1 ≤ i from hlt)
        rw [Nat.add_mul, Nat.one_mul] at this
        omega
       ·have := Nat.mul_le_mul_right b'.es (show i + 1 ≤ i' by omega)
        rw [Nat.add_mul, Nat.one_mul] at this
        omega
      rw [if_neg hnot]
      have := hB.cell i' r k u hr'' hu
      rwa [hoff, Nat.zero_add] at this)
   exact ⟨ρ, F1, a1.trans h3, h4, .ofv _⟩
 | _ => intro he; cases he
end
end
end Go.Ev
namespace Go.Ev
open Go
section
variable {W : Nat → Prop} {ρ : Rho} {H H' : List b8} {F : Fz} {w : World} {E : Env} {o : Oper} {a : List b7} {ac : Act} {x : b7}
theorem Ic4 {k m es : Nat} (h : k < m * es) : k / es < m ∧ k % es < es ∧ k / es * es + k % es = k := by
  have hes : 0 < es := by
    rcases Nat.eq_zero_or_pos es with h0 | h0
    · subst h0; simp at h
    · exact h0
  refine ⟨Nat.div_lt_of_lt_mul (by rwa [Nat.mul_comm] at h), Nat.mod_lt _ hes, ?_⟩
  rw [Nat.mul_comm]
  exact Nat.div_add_mod k es
structure Yc8 (F : Fz) (w : World) (es : Nat) (news : List (List b7)) (x' : Value) (nv : List Value) : Prop where
  rows : ∀ (i : Nat) r, news[i]? = some r → r.length = es
  len : nv.length = news.length * es
  form : (x' = .slice none 0 0 ∧ news = []) ∨ ∃ ad cap, x' = .slice (some ad) news.length cap ∧ (0 < news.length → ad.spot = none) ∧ ∀ j v, nv[j]? = some v → w.cell? (ad.add j) = some v
  cell : ∀ (i : Nat) r (c : Nat) u, news[i]? = some r → r[c]? = some u → ∃ u', nv[i * es + c]? = some u' ∧ U0 F w u u'
  one : ∀ u ∈ nv, u.oneCell' = true
theorem Yc8.mk' {es : Nat} {news : List (List b7)} {ad : Addr} {cap : Nat} (hs : 0 < news.length → ad.spot = none) (f : Nat → Value) (rows : ∀ (i : Nat) r, news[i]? = some r → r.length = es)
    (hc : ∀ k, k < news.length * es → w.cell? ⟨ad.block, ad.off + k, none⟩ = some (f k))
    (hr : ∀ (i : Nat) r (c : Nat) u, news[i]? = some r → r[c]? = some u → U0 F w u (f (i * es + c))) :
    Yc8 F w es news (.slice (some ad) news.length cap) ((List.range (news.length * es)).map f) := by
  refine ⟨rows, by simp, .inr ⟨ad, cap, rfl, hs, fun j v hj => ?_⟩, fun i r c u h1 h2 => ?_, fun u hu => ?_⟩
  · obtain ⟨h1, h2⟩ := Ea4 hj
    have hpos : 0 < news.length := by
      rcases Nat.eq_zero_or_pos news.length with h0 | h0
      · rw [h0] at h1; omega
      · exact h0
    rw [S9 (hs hpos), hc j h1, h2]
  · have hi := (List.getElem?_eq_some_iff.1 h1).1
    have hcl : c < es := by rw [← rows i r h1]; exact (List.getElem?_eq_some_iff.1 h2).1
    have hlt : i * es + c < news.length * es := by
      have := Nat.mul_le_mul_right es (show i + 1 ≤ news.length from hi)
      rw [Nat.add_mul, Nat.one_mul] at this
      omega
    exact ⟨f (i * es + c), by simp [hlt], hr i r c u h1 h2⟩
  · obtain ⟨k, hk, rfl⟩ := List.mem_map.1 hu
    have hk' : k < news.length * es := by simpa using hk
    obtain ⟨h1, h2, h3⟩ := Ic4 hk'
    have hlen := rows (k / es) _ (List.getElem?_eq_getElem h1)
    have := hr (k / es) _ (k % es) _ (List.getElem?_eq_getElem h1) (List.getElem?_eq_getElem (by omega))
    rw [h3] at this
    exact this.one
theorem Lb4 (hH : s5 W ρ H F w) {es : Nat} {y : b7} {y' : Value} {news : List (List b7)} (hy : z8 ρ H F w y y') (he : elemsOf es H y = some news) :
    ∃ nv, Yc8 F w es news y' nv := by
  revert he hy
  cases y with
  | sl id off n g =>
    intro hy he
    simp only [elemsOf] at he
    cases hbk : blkAt H id g with
    | none => simp [hbk] at he
    | some b =>
    obtain ⟨hb, hd, hg⟩ := r9 hbk
    cases hbe : Nat.beq b.es es with
    | false => simp [hbk, hbe] at he
    | true =>
    have hbes := Nat.eq_of_beq_eq_true hbe
    simp only [hbk, hbe, B8, B9] at he
    injection he with he
    obtain ⟨ad, cap, b', e, hb', hd', hg', hn, hspot, -, hh⟩ := Ba7 hy
    have : b' = b := Option.some.inj (hb'.symm.trans hb)
    subst this
    obtain ⟨h3, h4, h5⟩ := hh hg
    obtain ⟨cc, t, fr, hB⟩ := hH.blk id b' hb hd
    have hnl : news.length = n := by rw [← he]; simp; omega
    have hget : ∀ (i : Nat) r, news[i]? = some r → i < n ∧ b'.elems[off + i]? = some r := fun i r hr => by
      rw [← he] at hr
      rcases Nat.lt_or_ge i n with hi | hi
      · rw [List.getElem?_take, if_pos hi, List.getElem?_drop] at hr; exact ⟨hi, hr⟩
      · rw [List.getElem?_eq_none (by simp; omega)] at hr; cases hr
    rw [e, ← hnl]
    refine ⟨_, Yc8.mk' (fun _ => hspot) (fun k => cc.getD ((ρ id).off + (off * es + k)) undef) (fun i r hr => by rw [← hbes]; exact hB.rows _ r (hget i r hr).2) (fun k hk => ?_) (fun i r c u h1 h2 => ?_)⟩
    · rw [hnl] at hk
      have hn0 : 0 < n := by rcases Nat.eq_zero_or_pos n with h0 | h0; · subst h0; simp at hk
                             · exact h0
      have had := h3.resolve_left (by omega)
      have hle : (off + n) * es ≤ b'.elems.length * b'.es := by rw [hbes]; exact Nat.mul_le_mul_right _ h5
      rw [Nat.add_mul] at hle
      have := hB.len; have := hB.room
      have hlt : (ρ id).off + (off * es + k) < cc.size := by omega
      rw [had]
      simp only
      rw [hbes, Nat.add_assoc, hB.cellAt]
      simp [hlt]
    · obtain ⟨hi, hr⟩ := hget i r h1
      obtain ⟨x', h6, h7⟩ := hB.cell _ r c u hr h2
      have e2 : (ρ id).off + ((off + i) * b'.es + c) = (ρ id).off + (off * es + (i * es + c)) := by rw [hbes, Nat.add_mul]; omega
      rw [e2] at h6
      have hlt := (Array.getElem?_eq_some_iff.1 h6).1
      rw [Array.getElem?_eq_getElem hlt] at h6
      injection h6 with h6
      simp only [Array.getD, hlt, dif_pos]
      simpa [h6] using h7
  | tree es' n get =>
    intro hy he
    simp only [elemsOf] at he
    cases hbe : Nat.beq es' es with
    | false => simp [hbe] at he
    | true =>
    have hbes := Nat.eq_of_beq_eq_true hbe
    simp only [hbe, l8] at he
    injection he with he
    have ht := ra0 hy
    cases ht with
    | tree _ _ _ ad cap cs hs hcap hes' hF hw hr =>
    have hnl : news.length = n := by rw [← he]; simp
    have hget : ∀ (i : Nat) r, news[i]? = some r → i < n ∧ get i = r := fun i r hr => by
      rw [← he] at hr
      exact Ea4 hr
    conv => arg 1; ext nv; rw [← hnl]
    refine ⟨_, Yc8.mk' (fun h => hs (by omega)) (fun k => cs (k / es) (k % es)) (fun i r hr => by obtain ⟨h1, h2⟩ := hget i r hr; rw [← h2, hes' i h1, hbes]) (fun k hk => ?_) (fun i r c u h1 h2 => ?_)⟩
    · rw [hnl] at hk
      obtain ⟨h1, h2, h3⟩ := Ic4 hk
      have := hw (k / es) (k % es) h1 (by omega)
      rw [hbes, h3] at this
      exact this
    · obtain ⟨hi, hgi⟩ := hget i r h1
      subst hgi
      have hcl := (List.getElem?_eq_some_iff.1 h2).1
      have hce : c < es := by rw [← hbes, ← hes' i hi]; exact hcl
      have hd1 : (i * es + c) / es = i := by
        rw [Nat.mul_comm, Nat.mul_add_div (by omega), Nat.div_eq_of_lt hce]; omega
      have hd2 : (i * es + c) % es = c := by rw [Nat.mul_comm, Nat.mul_add_mod, Nat.mod_eq_of_lt hce]
      have := hr i c hi hcl
      rw [List.getElem?_eq_getElem hcl] at h2
      injection h2 with h2
      simp only [hd1, hd2]
      rw [← h2]
      exact this
    | nil =>
      subst he
      exact ⟨[], fun i r h => by simp at h, by simp, .inl ⟨rfl, rfl⟩, fun i r c u h => by simp at h, fun u h => by simp at h⟩
  | v u =>
    intro hy he
    have e := Z1 hy
    unfold elemsOf at he
    split at he
    · cases ‹b7.v u = _›
    · cases ‹b7.v u = _›
    · rename_i heq
      injection heq with heq
      injection he with he
      subst he
      exact ⟨[], fun i r h => by simp at h, by simp, .inl ⟨by rw [e, heq], rfl⟩, fun i r c u h => by simp at h, fun u h => by simp at h⟩
    · rename_i heq
      injection heq with heq
      injection he with he
      subst he
      exact ⟨[], fun i r h => by simp at h, by simp, .inr ⟨_, _, by rw [e, heq]; rfl, fun h => absurd h (by simp), fun j v h => by simp at h⟩, fun i r c u h => by simp at h, fun u h => by simp at h⟩
    · cases he
  | _ => intro _ he; cases he
end
end Go.Ev
