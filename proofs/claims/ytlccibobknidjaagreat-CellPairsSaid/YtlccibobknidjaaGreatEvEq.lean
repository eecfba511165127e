/- Own work: a part of the proof. -/
import Derived.Test.YtlccibobknidjaaGreatEvMem5
import Derived.Laws.CopyRow
import Derived.Laws.StructEq
import Derived.ChangeKeysEq
set_option linter.unusedVariables false
set_option linter.unusedSimpArgs false
set_option linter.unnecessarySimpa false
set_option linter.unusedSectionVars false
namespace Go.Ev
open Go
section
variable {W : Nat → Prop} {ρ : Rho} {H H' : List b8} {F : Fz} {w : World} {E : Env} {o : Oper} {a : List b7} {ac : Act} {x : b7}
theorem fe6 {y : b7} {y' : Value} (hy : z8 ρ H F w y y') (hp : Fd4 y = true) : U2 ρ H F w y y' := by
  have hn : ∀ cs, y ≠ .agg cs := fun cs e => by subst e; cases hp
  have hp' : Ja6 y = true := by cases y <;> first | exact hp | cases hp
  exact (Qb0 hy hp' hn).1
theorem Pc1 {f : b7 → Bool} : ∀ {l : List b7}, Pb0 f l = true → ∀ y ∈ l, f y = true
  | [], _, y, hy => by simp at hy
  | z :: l, h, y, hy => by
    have h' : (Bool.rec false (Pb0 f l) (f z) : Bool) = true := h
    cases hz : f z with
    | false => rw [hz] at h'; cases h'
    | true =>
      rw [hz] at h'
      rcases List.mem_cons.1 hy with rfl | hy
      · exact hz
      · exact Pc1 h' y hy
section
variable (hA : la1 ρ H F w a ac.tmps) (hH : s5 W ρ H F w) (hG : GOk E F w)
include hA hH hG
omit hH in
theorem Gd2 (xs : List Operand) : (l0 (c7 E a) (xs.map g8)).length = (xs.map ac.eval).length ∧ ∀ (i : Nat) y y', (l0 (c7 E a) (xs.map g8))[i]? = some y → (xs.map ac.eval)[i]? = some y' → z8 ρ H F w y y' := by
  rw [l8]
  refine ⟨by simp, fun i y y' hy hy' => ?_⟩
  rw [List.map_map, List.getElem?_map] at hy
  rw [List.getElem?_map] at hy'
  cases hx : xs[i]? with
  | none => simp [hx] at hy
  | some z =>
  simp [hx] at hy hy'
  subst hy hy'
  exact l7 hA hG z
theorem md6 {f : FuncId} {first caps : Array Operand} (ho : o.op = .makeFunc (.func f) first caps) (hf : first.isEmpty = true)
    (he : (evalOp E a H (.mkfn f (caps.toList.map g8))).run = some (x, H')) : j6 E.P o ac w (L9 W ρ H F w x H') := by
  simp only [evalOp] at he
  cases hb : Pb0 Fd4 (l0 (c7 E a) (caps.toList.map g8)) with
  | false => simp [hb] at he
  | true =>
  simp only [hb] at he
  have he' := Option.some.inj he
  injection he' with e1 e2; subst e1 e2
  obtain ⟨h1, h2⟩ := Gd2 hA hG caps.toList
  have hfirst : first = #[] := by simpa using hf
  refine .value (x' := .func (.func f) #[] (caps.map ac.eval)) (w' := w) (by simp [execOp, ho, Instr.makeFunc, hfirst]) (.stay hH (.val (.fn f _ _ (by rw [h1]; simp) fun i y y' hy hy' => ?_)))
  exact fe6 (h2 i y y' hy (by rw [← Array.getElem?_toList] at hy'; simpa using hy')) (Pc1 hb y (List.mem_of_getElem? hy))
omit hA hH hG in
theorem Gd3 {cs : List b7} {vs : Array Value} {t : TypeId} {off n : Nat} {y : b7} {ks : List CK} (hn : n = szT E.P t) (hu : (E.P.underlying t).isSome = true) (hl : cs.length = vs.size) (hr : ∀ (i : Nat) x x', cs[i]? = some x → vs[i]? = some x' → U2 ρ H F w x x')
    (hfit : off + n ≤ cs.length) (hks : ks.length = n) (hok : I0 ks (cs.drop off) = true) (hy : ib3 (agT E.P t) (vb9 ks (cs.drop off)) = some y) : ∃ y', (part t vs off).run E.P w = .ok y' w ∧ z8 ρ H F w y y' := by
  obtain ⟨d, hd⟩ := Option.isSome_iff_exists.1 hu
  obtain ⟨ti, hi1, hi2⟩ := Ya4 hd
  have hget : ∀ (i : Nat) z z', (vb9 ks (cs.drop off))[i]? = some z → (vs.extract off (off + n))[i]? = some z' → U2 ρ H F w z z' := fun i z z' hz hz' => by
    obtain ⟨hj, k, y, g1, rfl, g2⟩ := Yb9 ks _ hok i z hz
    have g3 := g2 (by rw [List.length_drop]; omega)
    rw [List.getElem?_drop] at g3
    rw [Array.getElem?_extract] at hz'
    split at hz'
    · exact zd6 g1 (hr _ y z' g3 hz')
    · cases hz'
  rcases Eb3 hy with ⟨hag, rfl⟩ | ⟨hag, z, hz, rfl⟩
  · exact ⟨.agg (vs.extract off (off + n)), by simp [part, Xa5 hag, sizeOf, typeInfo, hi1, hi2, hn], .val (.agg _ _ (by simp [Eb4]; omega) hget)⟩
  · have h1 : n = 1 := by
      have := congrArg List.length hz
      simp [Eb4] at this
      omega
    subst h1
    have hlt : off < vs.size := by omega
    have hne : E.P.underlying t ≠ none := by rw [hd]; simp
    have hlt2 : 0 < (vs.extract off (off + 1)).size := by simp; omega
    refine ⟨vs[off], by simp [part, Ja8 hag hne, hlt], .val (.cell (hget 0 y vs[off] (by rw [hz]; rfl) ?_))⟩
    rw [Array.getElem?_extract]
    simp [hlt]; omega
omit hA hH hG in
theorem Rd7 {cs : List b7} {vs : Array Value} {t : TypeId} {off n : Nat} {y : b7} (hn : n = szT E.P t) (hu : (E.P.underlying t).isSome = true) (hl : cs.length = vs.size) (hr : ∀ (i : Nat) x x', cs[i]? = some x → vs[i]? = some x' → U2 ρ H F w x x')
    (hfit : off + n ≤ cs.length) (hy : ib3 (agT E.P t) ((cs.drop off).take n) = some y) : ∃ y', (part t vs off).run E.P w = .ok y' w ∧ z8 ρ H F w y y' := by
  obtain ⟨d, hd⟩ := Option.isSome_iff_exists.1 hu
  obtain ⟨ti, hi1, hi2⟩ := Ya4 hd
  have hget : ∀ (i : Nat) z z', ((cs.drop off).take n)[i]? = some z → (vs.extract off (off + n))[i]? = some z' → U2 ρ H F w z z' := fun i z z' hz hz' => by
    rw [List.getElem?_take] at hz
    split at hz
    · rename_i hi
      rw [List.getElem?_drop] at hz
      rw [Array.getElem?_extract] at hz'
      split at hz'
      · exact hr _ z z' hz hz'
      · cases hz'
    · cases hz
  rcases Eb3 hy with ⟨hag, rfl⟩ | ⟨hag, z, hz, rfl⟩
  · exact ⟨.agg (vs.extract off (off + n)), by simp [part, Xa5 hag, sizeOf, typeInfo, hi1, hi2, hn], .val (.agg _ _ (by simp; omega) hget)⟩
  · have h1 : n = 1 := by
      have := congrArg List.length hz
      simp at this
      omega
    subst h1
    have hlt : off < vs.size := by omega
    have hne : E.P.underlying t ≠ none := by rw [hd]; simp
    have hz0 : cs[off]? = some y := by
      have := congrArg (fun l => l[0]?) hz
      simpa using this
    exact ⟨vs[off], by simp [part, Ja8 hag hne, hlt], .val (.cell (hr off _ _ hz0 (Array.getElem?_eq_getElem hlt)))⟩
theorem Zc4 {t : TypeId} {y : Operand} {f : Nat} {fs : Array Field} {fd : Field} (ho : o.op = .field t y f) (hu : E.P.underlying t = some (.struct fs)) (hf : fs[f]? = some fd) (hsome : (E.P.underlying fd.type).isSome = true)
    (he : (evalOp E a H (.field fd.offset (szT E.P fd.type) (agT E.P fd.type) (g8 y))).run = some (x, H')) : j6 E.P o ac w (L9 W ρ H F w x H') := by
  have hy := l7 hA hG y
  simp only [evalOp] at he
  revert he hy
  generalize c7 E a (g8 y) = p
  intro he hy
  split at he
  · rename_i cs
    simp only [l6, B8, B9] at he
    cases hb : Nat.ble (fd.offset + szT E.P fd.type) cs.length with
    | false => simp [hb] at he
    | true =>
    simp only [hb] at he
    obtain ⟨z, h1, h2⟩ := Ma0 he
    injection h2 with e1 e2; subst e1 e2
    obtain ⟨vs, e0, hl, hr⟩ := Aa2 hy
    obtain ⟨y', h3, h4⟩ := Rd7 rfl hsome hl hr (Nat.le_of_ble_eq_true hb) h1
    exact .value (x' := y') (w' := w) (by simp [execOp, ho, Instr.field, run_underlying hu, hf, e0, asAgg, h3]) (.stay hH h4)
  · cases he
theorem Zc5 {ks : List CK} {t e : TypeId} {n : Nat} {y z : Operand} (ho : o.op = .index t y z) (hu : E.P.underlying t = some (.array n e)) (hsome : (E.P.underlying e).isSome = true)
    (he : (evalOp E a H (.index ks n (szT E.P e) (agT E.P e) (g8 y) (g8 z))).run = some (x, H')) : j6 E.P o ac w (L9 W ρ H F w x H') := by
  have hy := l7 hA hG y
  have hz := l7 hA hG z
  simp only [evalOp] at he
  revert he hy
  generalize c7 E a (g8 y) = p
  intro he hy
  split at he
  · rename_i cs m hm
    obtain ⟨kk, ek⟩ := mb2 hm hz
    obtain ⟨hb, he⟩ := DT.run_guard_some he
    simp only [Bool.and_eq_true] at hb
    obtain ⟨hb, hb2, hb3, hb4⟩ := hb
    obtain ⟨g1, g2, g3⟩ := xb3 hb
    simp only [l6, B9] at he hb2 hb3 hb4
    obtain ⟨q, h1, h2⟩ := Ma0 he
    injection h2 with e1 e2; subst e1 e2
    obtain ⟨vs, e0, hl, hr⟩ := Aa2 hy
    obtain ⟨y', h3, h4⟩ := Gd3 rfl hsome hl hr (Nat.le_of_ble_eq_true hb2) (Nat.eq_of_beq_eq_true hb3) hb4 h1
    obtain ⟨d, hd⟩ := Option.isSome_iff_exists.1 hsome
    obtain ⟨ti, hi1, hi2⟩ := Ya4 hd
    rw [← hi2] at h3
    exact .value (x' := y') (w' := w) (by simp [execOp, ho, Instr.index, ek, asIntOf, run_underlying hu, e0, g1, g2, sizeOf, typeInfo, hi1, h3]) (.stay hH h4)
  · cases he
theorem Ad0 {t e : TypeId} {y : Operand} {c : Call} (ho : o.op = .call c) (hcb : c.callee = .builtin .len) (hca : c.args = #[y]) (hct : c.argTypes = #[t]) (hu : E.P.underlying t = some (.slice e))
    (he : (evalOp E a H (.len (g8 y))).run = some (x, H')) : j6 E.P o ac w (L9 W ρ H F w x H') := by
  have hy := l7 hA hG y
  simp only [evalOp] at he
  obtain ⟨z, h1, h2⟩ := Ma0 he
  injection h2 with e1 e2; subst e1 e2
  have hrun : ∀ {ad : Option Addr} {n cap : Nat}, ac.eval y = .slice ad n cap → (execOp ac.eval o).run E.P w = .ok (.value (.int .i64 n)) w := fun {ad n cap} e1 => by
    unfold execOp
    simp [ho, hcb, hca, hct, resolve, invoke, builtin, e1, Builtin.len_, run_underlying hu, goInt]
  revert h1 hy
  generalize c7 E a (g8 y) = p
  intro h1 hy
  unfold me0 at h1
  split at h1
  · injection h1 with h1
    subst h1
    obtain ⟨ad, cap, b', e0, _⟩ := Ba7 hy
    exact .value (hrun e0) (.stay hH (.ofv _))
  · injection h1 with h1
    subst h1
    have ht := ra0 hy
    generalize hv : ac.eval y = v at *
    cases ht with
    | tree _ _ _ ad cap cs hs hcap hes' hF hw hr => exact .value (hrun rfl) (.stay hH (.ofv _))
    | nil => exact .value (hrun rfl) (.stay hH (.ofv _))
  · injection h1 with h1
    subst h1
    exact .value (hrun (Z1 hy)) (.stay hH (.ofv _))
  · cases h1
omit hA hG in
theorem Cc0 {t e : TypeId} {n : Nat} {y : Operand} {c : Call} (ho : o.op = .call c) (hcb : c.callee = .builtin .len) (hca : c.args = #[y]) (hct : c.argTypes = #[t]) (hu : E.P.underlying t = some (.array n e))
    (he : (evalOp E a H (.mv (.c (.v (.int .i64 n))))).run = some (x, H')) : j6 E.P o ac w (L9 W ρ H F w x H') := by
  have he' : some (b7.v (.int .i64 n), H) = some (x, H') := he
  injection he' with he'
  injection he' with h1 h2
  subst h1 h2
  refine .value (x' := .int .i64 n) (w' := w) ?_ (.stay hH (.ofv _))
  unfold execOp
  simp [ho, hcb, hca, hct, resolve, invoke, builtin, Builtin.len_, run_underlying hu, goInt]
omit hA hH hG in
theorem Zc6 {P : Program} {t e : TypeId} (hu : P.underlying t = some (.slice e)) (ap aq : Option Addr) (n c m k : Nat) (h3 : ap.isNone = true ∨ aq.isNone = true) :
    (Op.equal t (.slice ap n c) (.slice aq m k)).run P w = .ok (ap.isNone && aq.isNone) w := by
  have h : ∀ d : Nat, (Op.equalIn (d + 1) t (.slice ap n c) (.slice aq m k)).run P w = .ok (ap.isNone && aq.isNone) w := fun d => by
    cases ap <;> cases aq <;> first | (simp at h3; done) | simp [Op.equalIn, run_underlying hu]
  exact h 9999
omit hA hH hG in
theorem Ad1 {P : Program} {t e : TypeId} (hu : P.underlying t = some (.pointer e)) (ap aq : Option Addr) (h3 : ap.isNone = true ∨ aq.isNone = true) :
    (Op.equal t (.pointer ap) (.pointer aq)).run P w = .ok (ap.isNone && aq.isNone) w := by
  have h : ∀ d : Nat, (Op.equalIn (d + 1) t (.pointer ap) (.pointer aq)).run P w = .ok (ap.isNone && aq.isNone) w := fun d => by
    cases ap <;> cases aq <;> first | (simp at h3; done) | simp [Op.equalIn, run_underlying hu]
  exact h 9999
omit hA hH hG in
theorem pc3 {P : Program} {t : TypeId} {ps rs : Array TypeId} {v : Bool} (hu : P.underlying t = some (.func ps rs v)) :
    (Op.equal t .nilFunc .nilFunc).run P w = .ok true w ∧ (∀ f c, (Op.equal t .nilFunc (.func f #[] c)).run P w = .ok false w) ∧ ∀ f c, (Op.equal t (.func f #[] c) .nilFunc).run P w = .ok false w := by
  have h1 : ∀ d : Nat, (Op.equalIn (d + 1) t .nilFunc .nilFunc).run P w = .ok true w := fun d => by simp [Op.equalIn, run_underlying hu]
  have h2 : ∀ (d : Nat) f c, (Op.equalIn (d + 1) t .nilFunc (.func f #[] c)).run P w = .ok false w := fun d f c => by simp [Op.equalIn, run_underlying hu]
  have h3 : ∀ (d : Nat) f c, (Op.equalIn (d + 1) t (.func f #[] c) .nilFunc).run P w = .ok false w := fun d f c => by simp [Op.equalIn, run_underlying hu]
  exact ⟨h1 9999, h2 9999, h3 9999⟩
omit hA hH hG in
theorem fe7 {t : TypeId} {p q : b7} {p' q' : Value} {bp bq : Bool} (hp : z8 ρ H F w p p') (hq : z8 ρ H F w q q') (h1 : Da8 (gb3 E.P t) p = some bp) (h2 : Da8 (gb3 E.P t) q = some bq) (h3 : bp = true ∨ bq = true) :
    (Op.equal t p' q').run E.P w = .ok (bp && bq) w ∧ (∀ op y z, (eqGuard op t y z p' q').run E.P w = .ok () w) ∧ (∀ op, op = .eql ∨ op = .neq → binOp op t p' q' = if op = .eql then (do pure (.bool (← Op.equal t p' q'))) else (do pure (.bool (!(← Op.equal t p' q'))))) := by
  unfold gb3 at h1 h2
  cases hu : E.P.underlying t with
  | none => simp [hu, Da8] at h1
  | some d =>
  cases d with
  | slice e =>
    simp only [hu] at h1 h2
    have form : ∀ {r : b7} {r' : Value} {b : Bool}, z8 ρ H F w r r' → Da8 0 r = some b → ∃ ad n c, r' = .slice ad n c ∧ ad.isNone = b := fun {r r' b} hr hb => by
      unfold Da8 at hb
      split at hb <;> first | cases hb | skip
      · exact ⟨none, _, _, Z1 hr, rfl⟩
      · exact ⟨some _, _, _, Z1 hr, rfl⟩
      · obtain ⟨ad, cap, b', e0, _⟩ := Ba7 hr; exact ⟨some ad, _, _, e0, rfl⟩
      · split at hb
        · cases hb
        · injection hb with hb; subst hb
          have ht := ra0 hr
          cases ht with
          | tree _ _ _ ad cap cs hs hcap hes' hF hw hr => exact ⟨some ad, _, _, rfl, rfl⟩
      all_goals contradiction
    obtain ⟨ap, np, cp, rfl, rfl⟩ := form hp h1
    obtain ⟨aq, nq, cq, rfl, rfl⟩ := form hq h2
    refine ⟨Zc6 hu ap aq np cp nq cq h3, fun op y z => ?_, fun op hop => ?_⟩
    · cases op <;> simp [eqGuard]
    · rcases hop with rfl | rfl <;> rfl
  | pointer e =>
    simp only [hu] at h1 h2
    have form : ∀ {r : b7} {r' : Value} {b : Bool}, z8 ρ H F w r r' → Da8 1 r = some b → ∃ ad, r' = .pointer ad ∧ ad.isNone = b := fun {r r' b} hr hb => by
      unfold Da8 at hb
      split at hb <;> first | cases hb | skip
      all_goals first
        | contradiction
        | exact ⟨none, Z1 hr, rfl⟩
        | (obtain ⟨ad, b', e0, _⟩ := Ea3 hr; exact ⟨some ad, e0, rfl⟩)
        | (obtain ⟨ad, vs, e0, _⟩ := mb1 hr; exact ⟨some ad, e0, rfl⟩)
    obtain ⟨ap, rfl, rfl⟩ := form hp h1
    obtain ⟨aq, rfl, rfl⟩ := form hq h2
    refine ⟨Ad1 hu ap aq h3, fun op y z => ?_, fun op hop => ?_⟩
    · cases op <;> simp [eqGuard]
    · rcases hop with rfl | rfl <;> rfl
  | func ps rs v =>
    simp only [hu] at h1 h2
    have form : ∀ {r : b7} {r' : Value} {b : Bool}, z8 ρ H F w r r' → Da8 2 r = some b → (r' = .nilFunc ∧ b = true) ∨ ∃ f c, r' = .func f #[] c ∧ b = false := fun {r r' b} hr hb => by
      unfold Da8 at hb
      split at hb <;> first | cases hb | skip
      all_goals first
        | contradiction
        | exact .inl ⟨Z1 hr, rfl⟩
        | (obtain ⟨vs, e0, _⟩ := pb1 hr; exact .inr ⟨_, _, e0, rfl⟩)
    rcases form hp h1 with ⟨rfl, rfl⟩ | ⟨f1, c1, rfl, rfl⟩ <;> rcases form hq h2 with ⟨rfl, rfl⟩ | ⟨f2, c2, rfl, rfl⟩
    all_goals first
      | (simp at h3; done)
      | (refine ⟨?_, fun op y z => ?_, fun op hop => ?_⟩
         · first | exact (pc3 hu).1 | exact (pc3 hu).2.1 _ _ | exact (pc3 hu).2.2 _ _
         · cases op <;> simp [eqGuard]
         · rcases hop with rfl | rfl <;> rfl)
  | _ => simp [hu, Da8] at h1
theorem Ic8 {op : BinOp} {neg : Bool} {t u : TypeId} {y z : Operand} {ts : List Nat} (ho : o.op = .binOp op t y z u) (hop : (op = .eql ∧ neg = false) ∨ (op = .neq ∧ neg = true)) (hts : Ea2 o.op.operands.toList = some ts)
    (he : (evalOp E a H (.eqn (gb3 E.P t) neg (g8 y) (g8 z) (fc1 o) ts)).run = some (x, H')) : j6 E.P o ac w (L9 W ρ H F w x H') := by
  have hy := l7 hA hG y
  have hz := l7 hA hG z
  simp only [evalOp] at he
  have hgen : (opt (Bc8 E a (fc1 o) ts) H).run = some (x, H') → j6 E.P o ac w (L9 W ρ H F w x H') :=
    Ic7 hA hH hG hts (fun cs b e => by rw [ho] at e; cases e)
  have hfin : ∀ {bp bq : Bool}, Da8 (gb3 E.P t) (c7 E a (g8 y)) = some bp → Da8 (gb3 E.P t) (c7 E a (g8 z)) = some bq → (bp = true ∨ bq = true) →
      (execOp ac.eval o).run E.P w = .ok (.value (.bool (match neg with | true => !(bp && bq) | false => bp && bq))) w := fun {bp bq} h1 h2 h3 => by
    obtain ⟨g1, g2, g3⟩ := fe7 hy hz h1 h2 h3
    rcases hop with ⟨rfl, rfl⟩ | ⟨rfl, rfl⟩
    · simp only [execOp, ho, Sem.run_bind, g2, Result.andThen_ok, g3 .eql (.inl rfl), if_pos, g1, Sem.run_pure]
    · have hne : ¬ (BinOp.neq = BinOp.eql) := by decide
      simp only [execOp, ho, Sem.run_bind, g2, Result.andThen_ok, g3 .neq (.inr rfl), if_neg hne, g1, Sem.run_pure]
  unfold ee8 at he
  split at he
  · rename_i b h1 h2
    obtain ⟨q, e1, e2⟩ := Ma0 he
    injection e1 with e1; injection e2 with e2 e3; subst e1 e2 e3
    refine .value (hfin h1 h2 (.inl rfl)) ?_
    cases neg <;> exact .stay hH (.ofv _)
  · rename_i h1 h2
    obtain ⟨q, e1, e2⟩ := Ma0 he
    injection e1 with e1; injection e2 with e2 e3; subst e1 e2 e3
    refine .value (hfin h1 h2 (.inr rfl)) ?_
    cases neg <;> exact .stay hH (.ofv _)
  · exact hgen he
end
end
end Go.Ev
namespace Go.Ev
open Go
section
variable {W : Nat → Prop} {ρ : Rho} {H H' : List b8} {F : Fz} {w : World} {E : Env} {o : Oper} {a : List b7} {ac : Act} {x : b7}
theorem td5 (hH : s5 W ρ H F w) {id off es : Nat} {b' : b8} (hb : H[id]? = some b') (hd : b'.dead = false) (hown : b'.own = true) (hbes : b'.es = es) {cc : Array Value} {tt : TypeId} (hB : ic9 W F w (ρ id) b' cc tt (0, 0)) {news : List (List b7)} {nv : List Value}
  (hl : nv.length = news.length * es) (hrow : ∀ (i : Nat) r, news[i]? = some r → r.length = es) (hcell : ∀ (i : Nat) r (c : Nat) u, news[i]? = some r → r[c]? = some u → ∃ u', nv[i * es + c]? = some u' ∧ U0 F w u u') (hfit : off + news.length ≤ b'.elems.length) :
  off * es + news.length * es ≤ cc.size ∧
  Adv W ρ H F w ρ (H.set id { b' with elems := b'.elems.take off ++ (news ++ b'.elems.drop (off + news.length)) }) F (w.setRow (ρ id).blk (cc.toList.take (off * es) ++ nv ++ cc.toList.drop (off * es + news.length * es)).toArray) ∧
  s5 W ρ (H.set id { b' with elems := b'.elems.take off ++ (news ++ b'.elems.drop (off + news.length)) }) F (w.setRow (ρ id).blk (cc.toList.take (off * es) ++ nv ++ cc.toList.drop (off * es + news.length * es)).toArray) := by
 obtain ⟨hfr, hW, hoff0, hsize, hnF, htt⟩ := hB.own hown
 have hlenB := hB.len
 generalize hm : news.length = m at *
 have hfc : off * es + m * es ≤ cc.size := by
  have h8 : (off + m) * es ≤ b'.elems.length * b'.es := by rw [hbes]; exact Nat.mul_le_mul_right _ hfit
  rw [Nat.add_mul] at h8
  omega
 have hel2 : (b'.elems.take off ++ (news ++ b'.elems.drop (off + m))).length = b'.elems.length := by simp; omega
 have hget : ∀ (i : Nat) r, (b'.elems.take off ++ (news ++ b'.elems.drop (off + m)))[i]? = some r → (off ≤ i ∧ i < off + m ∧ news[i - off]? = some r) ∨ ((i < off ∨ off + m ≤ i) ∧ b'.elems[i]? = some r) := fun i r hr => by
  rcases Nat.lt_or_ge i off with hi | hi
  ·rw [List.getElem?_append_left (by simp; omega), List.getElem?_take, if_pos hi] at hr
   exact .inr ⟨.inl hi, hr⟩
  ·rw [List.getElem?_append_right (by simp; omega)] at hr
   have e9 : i - (b'.elems.take off).length = i - off := by simp; omega
   rw [e9] at hr
   rcases Nat.lt_or_ge i (off + m) with hi2 | hi2
   ·rw [List.getElem?_append_left (by omega)] at hr
    exact .inl ⟨hi, hi2, hr⟩
   ·rw [List.getElem?_append_right (by omega), List.getElem?_drop] at hr
    have e10 : off + m + (i - off - news.length) = i := by omega
    rw [e10] at hr
    exact .inr ⟨.inr hi2, hr⟩
 obtain ⟨h6, h7⟩ := hH.rewrite id b' { b' with elems := b'.elems.take off ++ (news ++ b'.elems.drop (off + m)) } hb hd hown cc tt hB
  (cc.toList.take (off * es) ++ nv ++ cc.toList.drop (off * es + m * es)).toArray
  (by simp; omega) rfl rfl hown hd (Nat.le_refl _) (fun _ => by simp only; omega) (by simp only; rw [hel2]; exact hlenB)
  (fun i r hr => by
   rcases hget i r hr with ⟨h1, h2, h8⟩ | ⟨_, h8⟩
   ·rw [hbes]; exact hrow _ r h8
   ·exact hB.rows i r h8)
  (fun i r k u hr hu => by
   have hsa := pb2 (l := cc) (new := nv) (c := off * es) (k := i * b'.es + k) (by rw [hl]; exact hfc)
   rw [hl] at hsa
   rw [hsa, hbes]
   rcases hget i r hr with ⟨h1, h2, h8⟩ | ⟨h1, h8⟩
   ·have hk : k < es := by rw [← hrow _ r h8]; exact (List.getElem?_eq_some_iff.1 hu).1
    obtain ⟨u', h9, h10⟩ := hcell _ r k u h8 hu
    have e11 : i * es = off * es + (i - off) * es := by rw [← Nat.add_mul]; congr 1; omega
    have e12 : (i - off) * es + k < m * es := by
     have := Nat.mul_le_mul_right es (show i - off + 1 ≤ m by omega)
     rw [Nat.add_mul, Nat.one_mul] at this
     omega
    rw [if_pos (by omega)]
    refine ⟨u', ?_, h10⟩
    rw [show i * es + k - off * es = (i - off) * es + k by omega]
    exact h9
   ·have hk : k < es := by rw [← hbes, ← hB.rows _ r h8]; exact (List.getElem?_eq_some_iff.1 hu).1
    obtain ⟨u', h9, h10⟩ := hB.cell i r k u h8 hu
    rw [hoff0, Nat.zero_add, hbes] at h9
    have hnot : ¬ (off * es ≤ i * es + k ∧ i * es + k < off * es + m * es) := by
     rcases h1 with h1 | h1
     ·have := Nat.mul_le_mul_right es (show i + 1 ≤ off from h1)
      rw [Nat.add_mul, Nat.one_mul] at this
      omega
     ·have := Nat.mul_le_mul_right es h1
      rw [Nat.add_mul] at this
      omega
    rw [if_neg hnot]
    exact ⟨u', h9, h10⟩)
 exact ⟨hfc, h6, h7⟩
theorem jc0 {P : Program} {t e : TypeId} {i : TypeInfo} (ty : TypeId) (ht : P.underlying t = some (.slice e)) (hi : P.info? e = some i) (g n cap : Nat) (x' : Value) (k : Nat) (cur : Array Value) (tt : TypeId) (nv : List Value)
  (hg : w.heap[g]? = some (.cells cur tt (0, 0))) (hx : (x' = .slice none 0 0 ∧ k = 0) ∨ ∃ ad c, x' = .slice (some ad) k c ∧ ∀ j v, nv[j]? = some v → w.cell? (ad.add j) = some v) (hl : nv.length = k * i.size) (hcap : n + k ≤ cap) (hfit : n * i.size + k * i.size ≤ cur.size) (h1 : ∀ v ∈ nv, v.oneCell' = true) :
  (Builtin.append_ #[t, t] ty #[.slice (some ⟨g, 0, none⟩) n cap, x']).run P w = .ok (.slice (some ⟨g, 0, none⟩) (n + k) cap) (w.setRow g (cur.toList.take (n * i.size) ++ nv ++ cur.toList.drop (n * i.size + k * i.size)).toArray) := by
 have hst := run_storeCells_at (P := P) g (n * i.size) tt nv 0 cur w hg (by rw [hl]; simpa using hfit) h1
 simp only [Nat.add_zero, hl] at hst
 have hadd : (⟨g, 0, none⟩ : Addr).add (n * i.size) = ⟨g, n * i.size, none⟩ := by
  have := S9 (ad := ⟨g, 0, none⟩) rfl (n * i.size)
  simpa using this
 rcases hx with ⟨rfl, rfl⟩ | ⟨ad, c, rfl, hc⟩
 ·have hn0 : nv = [] := List.eq_nil_of_length_eq_zero (by simpa using hl)
  subst hn0
  simp only [Nat.zero_mul, Nat.add_zero] at hst ⊢
  simp [Builtin.append_, run_underlying ht, sizeOf, typeInfo, hi, Builtin.lenOf, Builtin.firstCells, show n ≤ cap by omega, hadd, hst]
 ·have hf := run_firstCells_some (P := P) (w := w) i.size k ad k c nv hl hc
  simp [Builtin.append_, run_underlying ht, sizeOf, typeInfo, hi, Builtin.lenOf, hcap, hf, hadd, hst]
section
variable (hA : la1 ρ H F w a ac.tmps) (hH : s5 W ρ H F w) (hG : GOk E F w)
include hA hH hG
theorem pc4 {t e : TypeId} {y z : Operand} {c : Call} (ho : o.op = .call c) (hcb : c.callee = .builtin .append) (hca : c.args = #[y, z]) (hct : c.argTypes = #[t, t])
  (hu : E.P.underlying t = some (.slice e)) {ei : TypeInfo} (hei : E.P.info? e = some ei) (hes : 0 < ei.size)
  (he : (evalOp E a H (.apre (szT E.P e) (g8 y) (g8 z))).run = some (x, H')) : j6 E.P o ac w (L9 W ρ H F w x H') := by
 have hy := l7 hA hG y
 have hzr := l7 hA hG z
 have hes' : szT E.P e = ei.size := by simp [szT, hei]
 rw [hes'] at he
 simp only [evalOp, apreA] at he
 cases hel : elemsOf ei.size H (c7 E a (g8 z)) with
 | none => simp [hel] at he
 | some news =>
 simp only [hel] at he
 obtain ⟨nv, hN⟩ := Lb4 hH hzr hel
 have hrun : ∀ {r : Value} {w' : World}, (Builtin.append_ #[t, t] o.type #[ac.eval y, ac.eval z]).run E.P w = .ok r w' → (execOp ac.eval o).run E.P w = .ok (.value r) w' := fun {r w'} h => by
  unfold execOp
  simp [ho, hcb, hca, hct, resolve, invoke, builtin, h]
 revert he hy
 generalize c7 E a (g8 y) = p
 intro hy he
 split at he
 ·have e0 := Z1 hy
  obtain ⟨h0, he⟩ := DT.run_guard_some he
  rw [l6] at h0
  have h0 := Nat.eq_of_beq_eq_true h0
  have he : some (b7.v (.slice none 0 0), H) = some (x, H') := he
  injection he with he; injection he with e1 e2; subst e1 e2
  rcases hN.form with ⟨hx, _⟩ | ⟨ad, cap, hx, _, _⟩
  ·exact .value (hrun (by rw [e0, hx]; exact ca5 _ hu hei none none 0 0 0 (Nat.le_refl _) w)) (.stay hH (.ofv _))
  ·exact .value (hrun (by rw [e0, hx, h0]; exact ca5 _ hu hei none (some ad) 0 0 cap (Nat.le_refl _) w)) (.stay hH (.ofv _))
 ·rename_i id off n g
  cases hbk : blkAt H id g with
  | none => simp [hbk] at he
  | some b =>
  obtain ⟨hb, hd, hg⟩ := r9 hbk
  simp only [hbk] at he
  split at he
  case h_2 => cases he
  rename_i hc4
  simp only [Bool.and_eq_true] at hc4
  obtain ⟨⟨hown, hoff⟩, hbes⟩ := hc4
  have hoff := Nat.eq_of_beq_eq_true hoff
  have hbes := Nat.eq_of_beq_eq_true hbes
  subst hoff
  obtain ⟨hle, he⟩ := DT.run_guard_some he
  rw [l6, l6] at hle
  have hle := Nat.le_of_ble_eq_true hle
  have he : some (b7.sl id 0 (n + len news) g, setAt H id { b with elems := app (D6 b.elems n) (app news (d8 b.elems (n + len news))) }) = some (x, H') := he
  injection he with he; injection he with e1 e2; subst e1 e2
  rw [z6, C0, C0, B8, B9, l6]
  obtain ⟨ad, cap, b', e0, hb', hd', hg', hn, hspot, hcm0, hh⟩ := Ba7 hy
  have : b' = b := Option.some.inj (hb'.symm.trans hb)
  subst this
  obtain ⟨h3, h4, h5⟩ := hh hg
  obtain ⟨cc, tt, fr, hB⟩ := hH.blk id b' hb hd
  obtain ⟨hfr, hW, hoff0, hsize, hnF, htt⟩ := hB.own hown
  subst hfr
  obtain ⟨hfc, h6, h7⟩ := td5 hH (off := n) hb hd hown hbes hB hN.len hN.rows hN.cell hle
  have had : ad = ⟨(ρ id).blk, 0, none⟩ := by
   rcases h3 with ⟨_, h⟩ | h
   ·omega
   ·rw [h, hoff0]; simp
  have hcap : n + news.length ≤ cap := by
   have h8 := hB.len
   rw [hbes] at h8
   rw [Nat.zero_add, hbes] at h4
   have h9 : b'.elems.length * ei.size ≤ cap * ei.size := by omega
   have := Nat.le_of_mul_le_mul_right h9 hes
   omega
  have hxf : (ac.eval z = .slice none 0 0 ∧ news.length = 0) ∨ ∃ ad cap, ac.eval z = .slice (some ad) news.length cap ∧ ∀ j v, nv[j]? = some v → w.cell? (ad.add j) = some v := by
   rcases hN.form with ⟨h1, h2⟩ | ⟨ad, cap, h1, _, h2⟩
   ·exact .inl ⟨h1, by simp [h2]⟩
   ·exact .inr ⟨ad, cap, h1, h2⟩
  have hr := jc0 (P := E.P) (w := w) (t := t) o.type hu hei (ρ id).blk n cap (ac.eval z) news.length cc tt nv hB.obj hxf hN.len hcap hfc hN.one
  have hid : id < H.length := (List.getElem?_eq_some_iff.1 hb).1
  refine .value (hrun (by rw [e0, had]; exact hr)) ⟨ρ, F, h6, h7, .val (.cell (.sl _ _ _ _ _ _ { b' with elems := b'.elems.take n ++ (news ++ b'.elems.drop (n + news.length)) } (by simp [hid]) hd hg' hcap rfl hcm0 fun _ => ⟨.inr ?_, h4, by simp; omega⟩))⟩
  rw [hoff0]; simp
 ·cases he
theorem Ic9 {t e : TypeId} {y : Operand} {z : List b7} {c : Call} (ho : o.op = .call c) (hcb : c.callee = .builtin .clear) (hca : c.args = #[y]) (hct : c.argTypes = #[t])
  (hu : E.P.underlying t = some (.slice e)) (hz : zeT E.P e = some z) (hpos : 0 < szT E.P e)
  (he : (evalOp E a H (.clr (szT E.P e) z (g8 y))).run = some (x, H')) : j6 E.P o ac w (L9 W ρ H F w x H') := by
 have hy := l7 hA hG y
 obtain ⟨ti, zv, hi, hzz, hzr, hone⟩ := Ja9 hz
 have hes' : szT E.P e = ti.size := by simp [szT, hi]
 rw [hes'] at he hpos
 simp only [evalOp] at he
 have he := mb0 he
 have hrun : ∀ {r : Value} {w' : World}, (Builtin.clear_ #[t] o.type #[ac.eval y]).run E.P w = .ok r w' → (execOp ac.eval o).run E.P w = .ok (.value r) w' := fun {r w'} h => by
  unfold execOp
  simp [ho, hcb, hca, hct, resolve, invoke, builtin, h]
 revert he hy
 generalize c7 E a (g8 y) = p
 intro hy he
 unfold clrA at he
 split at he
 ·have e0 := Z1 hy
  have he : some (b7.v (.tuple #[]), H) = some (x, H') := he
  injection he with he; injection he with e1 e2; subst e1 e2
  exact .value (hrun (by rw [e0]; simp [Builtin.clear_, run_underlying hu])) (.stay hH (.ofv _))
 ·rename_i id off n g
  cases hbk : blkAt H id g with
  | none => simp [hbk] at he
  | some b =>
  obtain ⟨hb, hd, hg⟩ := r9 hbk
  simp only [hbk] at he
  split at he
  case h_2 => cases he
  rename_i hc4
  simp only [Bool.and_eq_true] at hc4
  obtain ⟨⟨hown, hbes⟩, hzl⟩ := hc4
  have hbes := Nat.eq_of_beq_eq_true hbes
  rw [l6] at hzl
  have hzl := Nat.eq_of_beq_eq_true hzl
  have he : some (b7.v (.tuple #[]), setAt H id { b with elems := app (D6 b.elems off) (app (List.replicate n z) (d8 b.elems (off + n))) }) = some (x, H') := he
  injection he with he; injection he with e1 e2; subst e1 e2
  rw [z6, C0, C0, B8, B9]
  obtain ⟨ad, cap, b', e0, hb', hd', hg', hn, hspot, hcm0, hh⟩ := Ba7 hy
  have : b' = b := Option.some.inj (hb'.symm.trans hb)
  subst this
  obtain ⟨h3, h4, h5⟩ := hh hg
  obtain ⟨cc, tt, fr, hB⟩ := hH.blk id b' hb hd
  obtain ⟨hfr, hW, hoff0, hsize, hnF, htt⟩ := hB.own hown
  subst hfr
  have hzs : zv.cells.size = ti.size := by rw [hzr] at hzl; simpa using hzl
  have hzc : (Builtin.zeroCells zv.cells n).toList.length = n * ti.size := by simp [Builtin.zeroCells, hzs]
  obtain ⟨hfc, h6, h7⟩ := td5 hH (off := off) (news := List.replicate n z) (nv := (Builtin.zeroCells zv.cells n).toList) hb hd hown hbes hB (by rw [hzc, List.length_replicate]) (fun j r hr => by rw [List.getElem?_replicate] at hr; split at hr <;> cases hr; exact hzl)
   (fun j r k u hr hu => by
    rw [List.getElem?_replicate] at hr
    split at hr
    case isFalse => cases hr
    rename_i hj
    injection hr with hr
    subst hr
    have hk : k < ti.size := by rw [← hzl]; exact (List.getElem?_eq_some_iff.1 hu).1
    rw [hzr, List.getElem?_map] at hu
    have hkz : k < zv.cells.size := by omega
    have hq : zv.cells.toList[k]? = some zv.cells[k] := by simp [hkz]
    rw [hq] at hu
    injection hu with hu
    subst hu
    refine ⟨zv.cells[k], ?_, .v _ (hone _ (by simp))⟩
    have hlt : j * ti.size + k < n * ti.size := by
     have := Nat.mul_le_mul_right ti.size (show j + 1 ≤ n from hj)
     rw [Nat.add_mul, Nat.one_mul] at this
     omega
    have hm4 : (j * ti.size + k) % ti.size = k := by rw [Nat.mul_comm, Nat.mul_add_mod, Nat.mod_eq_of_lt hk]
    simp only [Builtin.zeroCells, hzs, Array.getElem?_toList]
    rw [Array.getElem?_map, Array.getElem?_range, if_pos hlt]
    simp [hm4, hkz])
   (by rw [List.length_replicate]; exact h5)
  simp only [List.length_replicate] at hfc h6 h7
  rcases Nat.eq_zero_or_pos n with hn0 | hn0
  ·subst hn0
   have hset : H.set id { b' with elems := b'.elems.take off ++ (List.replicate 0 z ++ b'.elems.drop (off + 0)) } = H := by
    have : ({ b' with elems := b'.elems.take off ++ (List.replicate 0 z ++ b'.elems.drop (off + 0)) } : b8) = b' := by simp
    rw [this]
    apply List.ext_getElem?
    intro k
    rcases Nat.lt_or_ge k H.length with hk | hk
    ·by_cases e : id = k
     ·subst e; rw [List.getElem?_set_self hk, hb]
     ·rw [List.getElem?_set_ne e]
    ·rw [List.getElem?_eq_none hk, List.getElem?_eq_none (by simpa using hk)]
   rw [hset]
   exact .value (hrun (by rw [e0]; simp [Builtin.clear_, run_underlying hu])) (.stay hH (.ofv _))
  ·have had : ad = ⟨(ρ id).blk, off * ti.size, none⟩ := by
    have := h3.resolve_left (by omega)
    rw [this, hoff0, hbes]; simp
   have hst := run_storeCells_at (P := E.P) (ρ id).blk (off * ti.size) tt (Builtin.zeroCells zv.cells n).toList 0 cc w hB.obj (by rw [hzc]; simpa using hfc) (fun v hv => by
    have hv' : v ∈ Builtin.zeroCells zv.cells n := by simpa using hv
    obtain ⟨q, hq, rfl⟩ := Array.mem_iff_getElem.1 hv'
    have hq' : q < n * ti.size := by rw [← hzc]; simpa using hq
    simp only [Builtin.zeroCells, Array.getElem_map, Array.getElem_range]
    have hqm : q % zv.cells.size < zv.cells.size := Nat.mod_lt _ (by omega)
    rw [getElem!_pos zv.cells _ hqm]
    exact hone _ (by simp))
   simp only [Nat.add_zero, hzc] at hst
   obtain ⟨n', rfl⟩ : ∃ n', n = n' + 1 := ⟨n - 1, by omega⟩
   refine .value (w' := w.setRow (ρ id).blk (cc.toList.take (off * ti.size) ++ (Builtin.zeroCells zv.cells (n' + 1)).toList ++ cc.toList.drop (off * ti.size + (n' + 1) * ti.size)).toArray) (hrun (r := .tuple #[]) ?_) ⟨ρ, F, h6, h7, .ofv _⟩
   rw [e0, had]
   simp [Builtin.clear_, run_underlying hu, zeroValue, typeInfo, hi, hzz, hst]
 ·cases he
end
end
end Go.Ev
namespace Go.Ev
open Go
def ua9 (cs : Array Value) (p : Nat × CK) : Prop := match p.2 with
 | .int k => ∃ n, cs[p.1]? = some (.int k n)
 | .bool => ∃ b, cs[p.1]? = some (.bool b)
 | _ => False
def Ra8 (cs ds : Array Value) (p : Nat × CK) : Bool := match cs[p.1]?, ds[p.1]? with
 | some (.int _ a), some (.int _ b) => a == b
 | some (.bool a), some (.bool b) => a == b
 | _, _ => false
theorem nc5 {P : Program} {t : TypeId} (h : ∀ fs, P.underlying t ≠ some (.struct fs)) (h' : ∀ n e, P.underlying t ≠ some (.array n e)) : agT P t = false := by
 unfold agT
 split
 ·exact absurd ‹_› (h _)
 ·exact absurd ‹_› (h' _ _)
 ·rfl
section
variable {P : Program} {w : World}
theorem pc5 {t : TypeId} {cs : Array Value} {off : Nat} {l : List (Nat × CK)} (hu : P.underlying t ≠ none) (hne : agT P t = false → l ≠ [] ∧ ∀ p ∈ l, p.1 = 0)
  (hl : ∀ p ∈ l, p.1 < szT P t) (hok : ∀ p ∈ l, ua9 cs (off + p.1, p.2)) :
  ∃ v, (part t cs off).run P w = .ok v w ∧ (agT P t = true → v = .agg v.cells) ∧ (agT P t = false → v.cells = #[v]) ∧ ∀ p ∈ l, v.cells[p.1]? = cs[off + p.1]? := by
 cases hd : P.underlying t with
 | none => exact absurd hd hu
 | some d =>
 obtain ⟨ti, hi1, hi2⟩ := Ya4 hd
 cases hag : agT P t with
 | true =>
  refine ⟨.agg (cs.extract off (off + szT P t)), by simp [part, Xa5 hag, sizeOf, typeInfo, hi1, hi2], fun _ => rfl, (fun h => by cases h), fun p hp => ?_⟩
  have h1 := hl p hp
  have h2 : off + p.1 < cs.size := by
   have := hok p hp
   unfold ua9 at this
   split at this
   ·obtain ⟨n, h⟩ := this; exact (Array.getElem?_eq_some_iff.1 h).1
   ·obtain ⟨n, h⟩ := this; exact (Array.getElem?_eq_some_iff.1 h).1
   ·exact this.elim
  show (cs.extract off (off + szT P t))[p.1]? = _
  rw [Array.getElem?_extract, if_pos (by omega)]
 | false =>
  obtain ⟨hne, h0⟩ := hne hag
  obtain ⟨p, l', rfl⟩ := List.exists_cons_of_ne_nil hne
  have hp0 := h0 p (by simp)
  have hv : ∃ v, cs[off]? = some v ∧ v.cells = #[v] := by
   have := hok p (by simp)
   rw [hp0] at this
   unfold ua9 at this
   split at this
   ·obtain ⟨n, h⟩ := this; exact ⟨_, h, rfl⟩
   ·obtain ⟨n, h⟩ := this; exact ⟨_, h, rfl⟩
   ·exact this.elim
  obtain ⟨v, hv, hc⟩ := hv
  refine ⟨v, by simp [part, Ja8 hag (by rw [hd]; simp), hv], (fun h => by cases h), fun _ => hc, fun q hq => ?_⟩
  rw [h0 q hq, hc]
  simpa using hv.symm
theorem Ca5 {off n : Nat} {x : Option (List (Nat × CK))} {l : List (Nat × CK)} (h : wb9 off n x = some l) : ∃ l', x = some l' ∧ (∀ p ∈ l', p.1 < n) ∧ l = l'.map fun p => (off + p.1, p.2) := by
 unfold wb9 at h
 cases x with
 | none => cases h
 | some l' =>
  simp only at h
  split at h
  ·rename_i hall
   injection h with h
   refine ⟨l', rfl, fun p hp => ?_, h.symm⟩
   have h1 := List.all_eq_true.1 hall p hp
   have h2 : p.1 + 1 ≤ n := Nat.le_of_ble_eq_true h1
   omega
  ·cases h
theorem Ad2 {v v' : Value} {cs ds : Array Value} {off : Nat} {l : List (Nat × CK)} (h : ∀ p ∈ l, v.cells[p.1]? = cs[off + p.1]?) (h' : ∀ p ∈ l, v'.cells[p.1]? = ds[off + p.1]?) :
  l.all (Ra8 v.cells v'.cells) = (l.map fun p => (off + p.1, p.2)).all (Ra8 cs ds) := by
 induction l with
 | nil => rfl
 | cons p l ih =>
  rw [List.map_cons, List.all_cons, List.all_cons, ih (fun q hq => h q (by simp [hq])) (fun q hq => h' q (by simp [hq]))]
  congr 1
  unfold Ra8
  rw [h p (by simp), h' p (by simp)]
structure Rd8 (P : Program) (w : World) (d : Nat) (t : TypeId) (l : List (Nat × CK)) : Prop where
 und : P.underlying t ≠ none
 one : agT P t = false → l ≠ [] ∧ ∀ p ∈ l, p.1 = 0
 eq : ∀ v v' : Value, (agT P t = true → v = .agg v.cells) → (agT P t = true → v' = .agg v'.cells) → (agT P t = false → v.cells = #[v]) → (agT P t = false → v'.cells = #[v']) → (∀ p ∈ l, ua9 v.cells p) → (∀ p ∈ l, ua9 v'.cells p) → (Op.equalIn d t v v').run P w = .ok (l.all (Ra8 v.cells v'.cells)) w
theorem Rd8.step {d : Nat} {t : TypeId} {l : List (Nat × CK)} (h : Rd8 P w d t l) {xs ys : Array Value} {off : Nat} (hl : ∀ p ∈ l, p.1 < szT P t) (hx : ∀ p ∈ l.map fun p => (off + p.1, p.2), ua9 xs p) (hy : ∀ p ∈ l.map fun p => (off + p.1, p.2), ua9 ys p) :
  ∃ a b, (part t xs off).run P w = .ok a w ∧ (part t ys off).run P w = .ok b w ∧ (Op.equalIn d t a b).run P w = .ok ((l.map fun p => (off + p.1, p.2)).all (Ra8 xs ys)) w := by
 have hx' : ∀ p ∈ l, ua9 xs (off + p.1, p.2) := fun p hp => hx _ (List.mem_map.2 ⟨p, hp, rfl⟩)
 have hy' : ∀ p ∈ l, ua9 ys (off + p.1, p.2) := fun p hp => hy _ (List.mem_map.2 ⟨p, hp, rfl⟩)
 obtain ⟨a, a1, a2, a4, a3⟩ := pc5 (w := w) h.und h.one hl hx'
 obtain ⟨b, b1, b2, b4, b3⟩ := pc5 (w := w) h.und h.one hl hy'
 refine ⟨a, b, a1, b1, ?_⟩
 rw [← Ad2 a3 b3]
 refine h.eq a b a2 b2 a4 b4 (fun p hp => ?_) (fun p hp => ?_)
 ·have := hx' p hp; unfold ua9 at this ⊢; rw [a3 p hp]; exact this
 ·have := hy' p hp; unfold ua9 at this ⊢; rw [b3 p hp]; exact this
theorem gb6 : ∀ (d : Nat) (t : TypeId) (l : List (Nat × CK)), S8 P d t = some l → Rd8 P w d t l
 | 0, _, _, h => by cases h
 | d + 1, t, l, h => by
  unfold S8 at h
  cases hu : P.underlying t with
  | none => simp [hu] at h
  | some u =>
  cases u with
  | int k =>
   simp only [hu] at h
   injection h with h; subst h
   have hag : agT P t = false := nc5 (by simp [hu]) (by simp [hu])
   refine ⟨by simp [hu], fun _ => ⟨by simp, by simp⟩, fun v v' _ _ k1 k2 h1 h2 => ?_⟩
   obtain ⟨n, e1⟩ := h1 (0, .int k) (by simp)
   obtain ⟨m, e2⟩ := h2 (0, .int k) (by simp)
   rw [k1 hag] at e1
   rw [k2 hag] at e2
   have e1' : v = .int k n := by simpa using e1
   have e2' : v' = .int k m := by simpa using e2
   subst e1' e2'
   rw [run_equalIn_int w d t k k n m hu]
   simp [Ra8, Value.cells]
  | bool =>
   simp only [hu] at h
   injection h with h; subst h
   have hag : agT P t = false := nc5 (by simp [hu]) (by simp [hu])
   refine ⟨by simp [hu], fun _ => ⟨by simp, by simp⟩, fun v v' _ _ k1 k2 h1 h2 => ?_⟩
   obtain ⟨n, e1⟩ := h1 (0, .bool) (by simp)
   obtain ⟨m, e2⟩ := h2 (0, .bool) (by simp)
   rw [k1 hag] at e1
   rw [k2 hag] at e2
   have e1' : v = .bool n := by simpa using e1
   have e2' : v' = .bool m := by simpa using e2
   subst e1' e2'
   rw [run_equalIn_bool w d t n m hu]
   simp [Ra8, Value.cells]
  | struct fs =>
   simp only [hu] at h
   split at h
   ·cases h
   rename_i hp
   refine ⟨by simp [hu], fun hag => by simp [agT, hu] at hag, fun v v' h1 h2 _ _ h3 h4 => ?_⟩
   have hag : agT P t = true := by simp [agT, hu]
   rw [h1 hag, h2 hag]
   generalize v.cells = xs at *
   generalize v'.cells = ys at *
   have hfo : P.fieldsOf t = fs := by simp [Program.fieldsOf, hu]
   rw [run_equalIn_struct w d t xs ys (by rw [hfo]; exact hu) (by simpa using hp), hfo]
   show _ = Result.ok (l.all (Ra8 xs ys)) w
   clear hfo hu h1 h2 hag
   generalize fs.toList = fl at *
   induction fl generalizing l with
   | nil =>
    simp only [List.map_nil, fa7] at h
    injection h with h; subst h
    simp [Op.eqFields]
   | cons f fl ih =>
    simp only [List.map_cons, fa7] at h
    split at h
    ·rename_i l1 l2 e1 e2
     injection h with h; subst h
     split at e1
     ·cases e1
     rename_i hnm
     obtain ⟨l', g1, g2, g3⟩ := Ca5 e1
     subst g3
     obtain ⟨a, b, p1, p2, p3⟩ := (gb6 d f.type l' g1).step (w := w) g2 (fun p hp => h3 p (List.mem_append_left _ hp)) (fun p hp => h4 p (List.mem_append_left _ hp))
     rw [List.all_append]
     simp only [Op.eqFields]
     rw [if_pos hnm]
     simp only [Sem.run_bind, p1, p2, p3, Result.andThen_ok]
     cases hb : ((l'.map fun p => (f.offset + p.1, p.2)).all (Ra8 xs ys)) with
     | false => simp
     | true =>
      simp only [Bool.not_true, Bool.false_eq_true, if_false, Bool.true_and]
      exact ih l2 (fun p hp => h3 p (List.mem_append_right _ hp)) (fun p hp => h4 p (List.mem_append_right _ hp)) e2
    ·cases h
  | array n e =>
   simp only [hu] at h
   split at h
   case isFalse => cases h
   rename_i hi
   obtain ⟨ti, hi⟩ := Option.isSome_iff_exists.1 hi
   refine ⟨by simp [hu], fun hag => by simp [agT, hu] at hag, fun v v' h1 h2 _ _ h3 h4 => ?_⟩
   have hag : agT P t = true := by simp [agT, hu]
   rw [h1 hag, h2 hag]
   generalize v.cells = xs at *
   generalize v'.cells = ys at *
   have hsz : P.cellsOf e = szT P e := by simp [Program.cellsOf, szT, hi]
   rw [run_equalIn_array w d xs ys hu hi, hsz]
   show _ = Result.ok (l.all (Ra8 xs ys)) w
   clear hu h1 h2 hag
   generalize List.range n = fl at *
   induction fl generalizing l with
   | nil =>
    simp only [List.map_nil, fa7] at h
    injection h with h; subst h
    simp [Op.eqItems]
   | cons f fl ih =>
    simp only [List.map_cons, fa7] at h
    split at h
    ·rename_i l1 l2 e1 e2
     injection h with h; subst h
     obtain ⟨l', g1, g2, g3⟩ := Ca5 e1
     subst g3
     obtain ⟨a, b, p1, p2, p3⟩ := (gb6 d e l' g1).step (w := w) g2 (fun p hp => h3 p (List.mem_append_left _ hp)) (fun p hp => h4 p (List.mem_append_left _ hp))
     rw [List.all_append]
     simp only [Op.eqItems]
     simp only [Sem.run_bind, p1, p2, p3, Result.andThen_ok]
     cases hb : ((l'.map fun p => (f * szT P e + p.1, p.2)).all (Ra8 xs ys)) with
     | false => simp
     | true =>
      simp only [Bool.not_true, Bool.false_eq_true, if_false, Bool.true_and]
      exact ih l2 (fun p hp => h3 p (List.mem_append_right _ hp)) (fun p hp => h4 p (List.mem_append_right _ hp)) e2
    ·cases h
  | _ => simp [hu] at h
end
section
variable {W : Nat → Prop} {ρ : Rho} {H H' : List b8} {F : Fz} {w : World} {E : Env} {o : Oper} {a : List b7} {ac : Act} {x : b7}
theorem Qb3 (cs : List b7) (n : Nat) : hdA (d8 cs n) = (cs[n]?).getD .unk := by
 rw [B9]
 induction cs generalizing n with
 | nil => cases n <;> rfl
 | cons c r ih =>
  cases n with
  | zero => rfl
  | succ n => simpa using ih n
theorem xb4 {cs : List b7} {vs : Array Value} (hl : cs.length = vs.size) (hr : ∀ (i : Nat) x x', cs[i]? = some x → vs[i]? = some x' → U2 ρ H F w x x') {k : CK} {n : Nat} (hk : (∃ i, k = .int i) ∨ k = .bool) (h : Hb0 k (hdA (d8 cs n)) = true) :
  ua9 vs (n, k) ∧ ∃ v, vs[n]? = some v ∧ hdA (d8 cs n) = .v v := by
 rw [Qb3] at h ⊢
 rcases Nat.lt_or_ge n cs.length with hlt | hge
 ·rw [List.getElem?_eq_getElem hlt] at h ⊢
  simp only [Option.getD_some] at h ⊢
  have hlt' : n < vs.size := hl ▸ hlt
  have hc := hr n _ _ (List.getElem?_eq_getElem hlt) (Array.getElem?_eq_getElem hlt')
  generalize cs[n] = y at *
  have hy : ∃ v, y = .v v ∧ ((∃ i m, k = .int i ∧ v = .int i m) ∨ (k = .bool ∧ ∃ m, v = .bool m)) := by
   rcases hk with ⟨i, rfl⟩ | rfl
   ·cases y with
    | v u =>
     cases u with
     | int k' m =>
      have : i = k' := by simpa [Hb0] using h
      subst this
      exact ⟨_, rfl, .inl ⟨_, _, rfl, rfl⟩⟩
     | _ => cases h
    | _ => cases h
   ·cases y with
    | v u =>
     cases u with
     | bool m => exact ⟨_, rfl, .inr ⟨rfl, _, rfl⟩⟩
     | _ => cases h
    | _ => cases h
  obtain ⟨v, rfl, hv⟩ := hy
  have := Z1 (.val (.cell hc))
  refine ⟨?_, v, by rw [Array.getElem?_eq_getElem hlt', this], rfl⟩
  rcases hv with ⟨i, m, rfl, rfl⟩ | ⟨rfl, m, rfl⟩
  ·exact ⟨m, by rw [Array.getElem?_eq_getElem hlt', this]⟩
  ·exact ⟨m, by rw [Array.getElem?_eq_getElem hlt', this]⟩
 ·rw [List.getElem?_eq_none hge] at h
  rcases hk with ⟨i, rfl⟩ | rfl <;> cases h
theorem Ya6 {P : Program} : ∀ (d : Nat) (t : TypeId) (l : List (Nat × CK)), S8 P d t = some l → ∀ p ∈ l, (∃ i, p.2 = .int i) ∨ p.2 = .bool
 | 0, _, _, h => by cases h
 | d + 1, t, l, h => by
  have hs : ∀ {off n : Nat} {e : TypeId} {l : List (Nat × CK)}, wb9 off n (S8 P d e) = some l → ∀ p ∈ l, (∃ i, p.2 = .int i) ∨ p.2 = .bool := fun {off n e l} h p hp => by
   obtain ⟨l', g1, _, rfl⟩ := Ca5 h
   obtain ⟨q, hq, rfl⟩ := List.mem_map.1 hp
   exact Ya6 d e l' g1 q hq
  have hc : ∀ (xs : List (Option (List (Nat × CK)))) (l : List (Nat × CK)), (∀ x ∈ xs, ∀ l, x = some l → ∀ p ∈ l, (∃ i, p.2 = .int i) ∨ p.2 = .bool) → fa7 xs = some l → ∀ p ∈ l, (∃ i, p.2 = .int i) ∨ p.2 = .bool := fun xs => by
   induction xs with
   | nil => intro l _ h; simp only [fa7] at h; injection h with h; subst h; simp
   | cons x xs ih =>
    intro l hx h
    simp only [fa7] at h
    cases x with
    | none => cases h
    | some l1 =>
    cases e2 : fa7 xs with
    | none => simp [e2] at h
    | some l2 =>
    simp only [e2] at h
    injection h with h; subst h
    intro p hp
    rcases List.mem_append.1 hp with hp | hp
    ·exact hx (some l1) (by simp) _ rfl p hp
    ·exact ih l2 (fun x hx' => hx x (by simp [hx'])) e2 p hp
  unfold S8 at h
  split at h
  ·injection h with h; subst h; intro p hp; simp at hp; subst hp; exact .inl ⟨_, rfl⟩
  ·injection h with h; subst h; intro p hp; simp at hp; subst hp; exact .inr rfl
  ·split at h
   ·cases h
   ·refine hc _ _ (fun x hx l hl => ?_) h
    obtain ⟨f, _, rfl⟩ := List.mem_map.1 hx
    split at hl
    ·cases hl
    ·exact hs hl
  ·split at h
   ·refine hc _ _ (fun x hx l hl => ?_) h
    obtain ⟨f, _, rfl⟩ := List.mem_map.1 hx
    exact hs hl
   ·cases h
  ·cases h
theorem xb5 {α : Type} {f g : α → Option (List (Nat × CK))} (h : ∀ x l, f x = some l → g x = some l) : ∀ (xs : List α) (l : List (Nat × CK)), fa7 (xs.map f) = some l → fa7 (xs.map g) = some l
 | [], _, e => e
 | x :: xs, l, e => by
  simp only [List.map_cons, fa7] at e ⊢
  cases h1 : f x with
  | none => simp [h1] at e
  | some l1 =>
  cases h2 : fa7 (xs.map f) with
  | none => simp [h1, h2] at e
  | some l2 =>
  rw [h x l1 h1, xb5 h xs l2 h2]
  simpa [h1, h2] using e
theorem fc3 {off n : Nat} {x y : Option (List (Nat × CK))} (h : ∀ l, x = some l → y = some l) {l : List (Nat × CK)} (e : wb9 off n x = some l) : wb9 off n y = some l := by
 cases hx : x with
 | none => rw [hx] at e; cases e
 | some l' => rw [h l' hx, ← hx]; exact e
theorem pc6 {P : Program} : ∀ (d : Nat) (t : TypeId) (l : List (Nat × CK)), S8 P d t = some l → S8 P (d + 1) t = some l
 | 0, _, _, h => by cases h
 | d + 1, t, l, h => by
  have ih := pc6 (P := P) d
  unfold S8 at h ⊢
  split at h
  ·exact h
  ·exact h
  ·split at h
   ·cases h
   ·rename_i h1
    rw [if_neg h1]
    refine xb5 (fun f l e => ?_) _ _ h
    split at e
    ·cases e
    ·rename_i h2
     rw [if_neg h2]
     exact fc3 (ih _) e
  ·split at h
   ·rename_i h1
    rw [if_pos h1]
    exact xb5 (fun f l e => fc3 (ih _) e) _ _ h
   ·cases h
  ·cases h
theorem Lb6 {P : Program} {d : Nat} {t : TypeId} {l : List (Nat × CK)} (h : S8 P d t = some l) : ∀ k, S8 P (d + k) t = some l
 | 0 => h
 | k + 1 => pc6 _ _ _ (Lb6 h k)
theorem pc7 {fl : List (Nat × CK)} {cs : List b7} (h : ld2 fl cs = true) : ∀ p ∈ fl, Hb0 p.2 (hdA (d8 cs p.1)) = true := by
 induction fl with
 | nil => simp
 | cons p fl ih =>
  have h' : Bool.and (Hb0 p.2 (hdA (d8 cs p.1))) (ld2 fl cs) = true := h
  simp only [Bool.and_eq_true] at h'
  intro q hq
  rcases List.mem_cons.1 hq with rfl | hq
  ·exact h'.1
  ·exact ih h'.2 q hq
section
variable (hA : la1 ρ H F w a ac.tmps) (hH : s5 W ρ H F w) (hG : GOk E F w)
include hA hH hG
theorem Jc0 {op : BinOp} {neg : Bool} {t u : TypeId} {y z : Operand} {fl : List (Nat × CK)} (ho : o.op = .binOp op t y z u) (hop : (op = .eql ∧ neg = false) ∨ (op = .neq ∧ neg = true)) (hag : agT E.P t = true) (hf : S8 E.P 9 t = some fl) (hgt : E.P.eqGuardType E.P.depth t = false)
  (he : (evalOp E a H (.eqc neg fl (g8 y) (g8 z))).run = some (x, H')) : j6 E.P o ac w (L9 W ρ H F w x H') := by
 have hy := l7 hA hG y
 have hz := l7 hA hG z
 simp only [evalOp] at he
 revert he hy hz
 generalize c7 E a (g8 y) = p
 generalize c7 E a (g8 z) = q
 intro he hy hz
 split at he
 case h_2 => cases he
 rename_i cs ds
 have hh := DT.run_guard_some he
 clear he
 obtain ⟨hg, he⟩ := hh
 simp only [Bool.and_eq_true] at hg
 have he' : some (b7.v (.bool (ae8 neg (Hb1 fl cs ds))), H) = some (x, H') := he
 injection he' with he'; injection he' with e1 e2; subst e1 e2
 obtain ⟨vs, ey, hl, hr⟩ := Aa2 hy
 obtain ⟨us, ez, hl', hr'⟩ := Aa2 hz
 have hk := Ya6 9 t fl hf
 have h1 := pc7 hg.1
 have h2 := pc7 hg.2
 have k1 : ∀ p ∈ fl, ua9 vs p := fun p hp => (xb4 hl hr (hk p hp) (h1 p hp)).1
 have k2 : ∀ p ∈ fl, ua9 us p := fun p hp => (xb4 hl' hr' (hk p hp) (h2 p hp)).1
 have hF' := (gb6 (w := w) (9 + 9991) t fl (Lb6 hf 9991)).eq (.agg vs) (.agg us) (fun _ => rfl) (fun _ => rfl) (fun h => by rw [hag] at h; cases h) (fun h => by rw [hag] at h; cases h) k1 k2
 have heq : fl.all (Ra8 vs us) = Hb1 fl cs ds := by
  clear hF' hg hf he
  induction fl with
  | nil => rfl
  | cons p fl ih =>
   have e : Hb1 (p :: fl) cs ds = (ee9 p.2 (hdA (d8 cs p.1)) (hdA (d8 ds p.1)) && Hb1 fl cs ds) := rfl
   rw [List.all_cons, ih (fun q hq => hk q (by simp [hq])) (fun q hq => h1 q (by simp [hq])) (fun q hq => h2 q (by simp [hq])) (fun q hq => k1 q (by simp [hq])) (fun q hq => k2 q (by simp [hq])), e]
   congr 1
   obtain ⟨g1, v, g2, g3⟩ := xb4 hl hr (hk p (by simp)) (h1 p (by simp))
   obtain ⟨g4, v', g5, g6⟩ := xb4 hl' hr' (hk p (by simp)) (h2 p (by simp))
   obtain ⟨n, kk⟩ := p
   simp only at *
   rw [g3, g6]
   unfold Ra8
   rw [g2, g5]
   rcases hk (n, kk) (by simp) with ⟨i, hi⟩ | hi
   ·simp only at hi; subst hi
    obtain ⟨m, hm⟩ := g1
    obtain ⟨m', hm'⟩ := g4
    simp only [g2, g5, Option.some.injEq] at hm hm'
    subst hm hm'
    rfl
   ·simp only at hi; subst hi
    obtain ⟨m, hm⟩ := g1
    obtain ⟨m', hm'⟩ := g4
    simp only [g2, g5, Option.some.injEq] at hm hm'
    subst hm hm'
    rfl
 rw [← heq]
 have hF' : (Op.equalIn 10000 t (.agg vs) (.agg us)).run E.P w = .ok (fl.all (Ra8 vs us)) w := hF'
 rcases hop with ⟨rfl, rfl⟩ | ⟨rfl, rfl⟩
 ·refine .value (x' := .bool (fl.all (Ra8 vs us))) (w' := w) ?_ (.stay hH (.ofv _))
  simp only [execOp, ho, ey, ez, Sem.run_bind, run_eqGuard_agg w .eql t y z vs us hgt, Result.andThen_ok, run_eql_struct, hF', Sem.run_pure]
 ·refine .value (x' := .bool (!(fl.all (Ra8 vs us)))) (w' := w) ?_ (.stay hH (.ofv _))
  simp only [execOp, ho, ey, ez, Sem.run_bind, run_eqGuard_agg w .neq t y z vs us hgt, Result.andThen_ok, run_neq_struct, hF', Sem.run_pure]
end
end
end Go.Ev
