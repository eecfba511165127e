/- Function values, fields, lengths, comparisons (own work). -/
import Derived.Test.YthbcfinnphpcbaaDoorEvMem5
namespace Go.Ev
open Go
section
variable {W : Nat → Prop} {ρ : Rho} {H H' : List ABlk} {F : Fz} {w : World} {E : Env} {o : Oper} {a : List AVal} {ac : Act} {x : AVal}

theorem cap_ok {y : AVal} {y' : Value} (hy : WRel ρ H F w y y') (hp : capOk y = true) : CRel ρ H F w y y' := by
  have hn : ∀ cs, y ≠ .agg cs := fun cs e => by subst e; cases hp
  have hp' : partOk y = true := by cases y <;> first | exact hp | cases hp
  exact (cell_of_part hy hp' hn).1
theorem allB_ok {f : AVal → Bool} : ∀ {l : List AVal}, allB f l = true → ∀ y ∈ l, f y = true
  | [], _, y, hy => by simp at hy
  | z :: l, h, y, hy => by
    have h' : (Bool.rec false (allB f l) (f z) : Bool) = true := h
    cases hz : f z with
    | false => rw [hz] at h'; cases h'
    | true =>
      rw [hz] at h'
      rcases List.mem_cons.1 hy with rfl | hy
      · exact hz
      · exact allB_ok h' y hy

section
variable (hA : ARel ρ H F w a ac.tmps) (hH : HRel W ρ H F w) (hG : GOk E F w)
include hA hH hG

omit hH in
theorem args_rel (xs : List Operand) : (mapL (evalA E a) (xs.map cArg)).length = (xs.map ac.eval).length ∧ ∀ (i : Nat) y y', (mapL (evalA E a) (xs.map cArg))[i]? = some y → (xs.map ac.eval)[i]? = some y' → WRel ρ H F w y y' := by
  rw [mapL_eq]
  refine ⟨by simp, fun i y y' hy hy' => ?_⟩
  rw [List.map_map, List.getElem?_map] at hy
  rw [List.getElem?_map] at hy'
  cases hx : xs[i]? with
  | none => simp [hx] at hy
  | some z =>
  simp [hx] at hy hy'
  subst hy hy'
  exact evalA_ok hA hG z

theorem sound_mkfn {f : FuncId} {first caps : Array Operand} (ho : o.op = .makeFunc (.func f) first caps) (hf : first.isEmpty = true)
    (he : (evalOp E a H (.mkfn f (caps.toList.map cArg))).run = some (x, H')) : OpGives E.P o ac w (Post W ρ H F w x H') := by
  simp only [evalOp] at he
  cases hb : allB capOk (mapL (evalA E a) (caps.toList.map cArg)) with
  | false => simp [hb] at he
  | true =>
  simp only [hb] at he
  have he' := Option.some.inj he
  injection he' with e1 e2; subst e1 e2
  obtain ⟨h1, h2⟩ := args_rel hA hG caps.toList
  have hfirst : first = #[] := by simpa using hf
  refine .value (x' := .func (.func f) #[] (caps.map ac.eval)) (w' := w) (by simp [execOp, ho, Instr.makeFunc, hfirst]) (.stay hH (.val (.fn f _ _ (by rw [h1]; simp) fun i y y' hy hy' => ?_)))
  exact cap_ok (h2 i y y' hy (by rw [← Array.getElem?_toList] at hy'; simpa using hy')) (allB_ok hb y (List.mem_of_getElem? hy))

omit hA hH hG in
theorem part_okK {cs : List AVal} {vs : Array Value} {t : TypeId} {off n : Nat} {y : AVal} {ks : List CK} (hn : n = szT E.P t) (hu : (E.P.underlying t).isSome = true) (hl : cs.length = vs.size) (hr : ∀ (i : Nat) x x', cs[i]? = some x → vs[i]? = some x' → CRel ρ H F w x x')
    (hfit : off + n ≤ cs.length) (hks : ks.length = n) (hok : okCKs ks (cs.drop off) = true) (hy : asType (agT E.P t) (asCKs ks (cs.drop off)) = some y) : ∃ y', (part t vs off).run E.P w = .ok y' w ∧ WRel ρ H F w y y' := by
  obtain ⟨d, hd⟩ := Option.isSome_iff_exists.1 hu
  obtain ⟨ti, hi1, hi2⟩ := szT_info hd
  have hget : ∀ (i : Nat) z z', (asCKs ks (cs.drop off))[i]? = some z → (vs.extract off (off + n))[i]? = some z' → CRel ρ H F w z z' := fun i z z' hz hz' => by
    obtain ⟨hj, k, y, g1, rfl, g2⟩ := asCKs_get ks _ hok i z hz
    have g3 := g2 (by rw [List.length_drop]; omega)
    rw [List.getElem?_drop] at g3
    rw [Array.getElem?_extract] at hz'
    split at hz'
    · exact asCK_cell g1 (hr _ y z' g3 hz')
    · cases hz'
  rcases asType_ok hy with ⟨hag, rfl⟩ | ⟨hag, z, hz, rfl⟩
  · exact ⟨.agg (vs.extract off (off + n)), by simp [part, isAgg_run hag, sizeOf, typeInfo, hi1, hi2, hn], .val (.agg _ _ (by simp [asCKs_len]; omega) hget)⟩
  · have h1 : n = 1 := by
      have := congrArg List.length hz
      simp [asCKs_len] at this
      omega
    subst h1
    have hlt : off < vs.size := by omega
    have hne : E.P.underlying t ≠ none := by rw [hd]; simp
    have hlt2 : 0 < (vs.extract off (off + 1)).size := by simp; omega
    refine ⟨vs[off], by simp [part, isAgg_run' hag hne, hlt], .val (.cell (hget 0 y vs[off] (by rw [hz]; rfl) ?_))⟩
    rw [Array.getElem?_extract]
    simp [hlt]; omega

omit hA hH hG in
theorem part_ok {cs : List AVal} {vs : Array Value} {t : TypeId} {off n : Nat} {y : AVal} (hn : n = szT E.P t) (hu : (E.P.underlying t).isSome = true) (hl : cs.length = vs.size) (hr : ∀ (i : Nat) x x', cs[i]? = some x → vs[i]? = some x' → CRel ρ H F w x x')
    (hfit : off + n ≤ cs.length) (hy : asType (agT E.P t) ((cs.drop off).take n) = some y) : ∃ y', (part t vs off).run E.P w = .ok y' w ∧ WRel ρ H F w y y' := by
  obtain ⟨d, hd⟩ := Option.isSome_iff_exists.1 hu
  obtain ⟨ti, hi1, hi2⟩ := szT_info hd
  have hget : ∀ (i : Nat) z z', ((cs.drop off).take n)[i]? = some z → (vs.extract off (off + n))[i]? = some z' → CRel ρ H F w z z' := fun i z z' hz hz' => by
    rw [List.getElem?_take] at hz
    split at hz
    · rename_i hi
      rw [List.getElem?_drop] at hz
      rw [Array.getElem?_extract] at hz'
      split at hz'
      · exact hr _ z z' hz hz'
      · cases hz'
    · cases hz
  rcases asType_ok hy with ⟨hag, rfl⟩ | ⟨hag, z, hz, rfl⟩
  · exact ⟨.agg (vs.extract off (off + n)), by simp [part, isAgg_run hag, sizeOf, typeInfo, hi1, hi2, hn], .val (.agg _ _ (by simp; omega) hget)⟩
  · have h1 : n = 1 := by
      have := congrArg List.length hz
      simp at this
      omega
    subst h1
    have hlt : off < vs.size := by omega
    have hne : E.P.underlying t ≠ none := by rw [hd]; simp
    have hz0 : cs[off]? = some y := by
      have := congrArg (fun l => l[0]?) hz
      simpa using this
    exact ⟨vs[off], by simp [part, isAgg_run' hag hne, hlt], .val (.cell (hr off _ _ hz0 (Array.getElem?_eq_getElem hlt)))⟩

theorem sound_field {t : TypeId} {y : Operand} {f : Nat} {fs : Array Field} {fd : Field} (ho : o.op = .field t y f) (hu : E.P.underlying t = some (.struct fs)) (hf : fs[f]? = some fd) (hsome : (E.P.underlying fd.type).isSome = true)
    (he : (evalOp E a H (.field fd.offset (szT E.P fd.type) (agT E.P fd.type) (cArg y))).run = some (x, H')) : OpGives E.P o ac w (Post W ρ H F w x H') := by
  have hy := evalA_ok hA hG y
  simp only [evalOp] at he
  revert he hy
  generalize evalA E a (cArg y) = p
  intro he hy
  split at he
  · rename_i cs
    simp only [len_eq, takeN_eq, dropN_eq] at he
    cases hb : Nat.ble (fd.offset + szT E.P fd.type) cs.length with
    | false => simp [hb] at he
    | true =>
    simp only [hb] at he
    obtain ⟨z, h1, h2⟩ := opt_run he
    injection h2 with e1 e2; subst e1 e2
    obtain ⟨vs, e0, hl, hr⟩ := inv_agg hy
    obtain ⟨y', h3, h4⟩ := part_ok rfl hsome hl hr (Nat.le_of_ble_eq_true hb) h1
    exact .value (x' := y') (w' := w) (by simp [execOp, ho, Instr.field, run_underlying hu, hf, e0, asAgg, h3]) (.stay hH h4)
  · cases he

theorem sound_index {ks : List CK} {t e : TypeId} {n : Nat} {y z : Operand} (ho : o.op = .index t y z) (hu : E.P.underlying t = some (.array n e)) (hsome : (E.P.underlying e).isSome = true)
    (he : (evalOp E a H (.index ks n (szT E.P e) (agT E.P e) (cArg y) (cArg z))).run = some (x, H')) : OpGives E.P o ac w (Post W ρ H F w x H') := by
  have hy := evalA_ok hA hG y
  have hz := evalA_ok hA hG z
  simp only [evalOp] at he
  revert he hy
  generalize evalA E a (cArg y) = p
  intro he hy
  split at he
  · rename_i cs m hm
    obtain ⟨kk, ek⟩ := intOf_ok hm hz
    obtain ⟨hb, he⟩ := DT.run_guard_some he
    simp only [Bool.and_eq_true] at hb
    obtain ⟨hb, hb2, hb3, hb4⟩ := hb
    obtain ⟨g1, g2, g3⟩ := inB_ok hb
    simp only [len_eq, dropN_eq] at he hb2 hb3 hb4
    obtain ⟨q, h1, h2⟩ := opt_run he
    injection h2 with e1 e2; subst e1 e2
    obtain ⟨vs, e0, hl, hr⟩ := inv_agg hy
    obtain ⟨y', h3, h4⟩ := part_okK rfl hsome hl hr (Nat.le_of_ble_eq_true hb2) (Nat.eq_of_beq_eq_true hb3) hb4 h1
    obtain ⟨d, hd⟩ := Option.isSome_iff_exists.1 hsome
    obtain ⟨ti, hi1, hi2⟩ := szT_info hd
    rw [← hi2] at h3
    exact .value (x' := y') (w' := w) (by simp [execOp, ho, Instr.index, ek, asIntOf, run_underlying hu, e0, g1, g2, sizeOf, typeInfo, hi1, h3]) (.stay hH h4)
  · cases he

theorem sound_len {t e : TypeId} {y : Operand} {c : Call} (ho : o.op = .call c) (hcb : c.callee = .builtin .len) (hca : c.args = #[y]) (hct : c.argTypes = #[t]) (hu : E.P.underlying t = some (.slice e))
    (he : (evalOp E a H (.len (cArg y))).run = some (x, H')) : OpGives E.P o ac w (Post W ρ H F w x H') := by
  have hy := evalA_ok hA hG y
  simp only [evalOp] at he
  obtain ⟨z, h1, h2⟩ := opt_run he
  injection h2 with e1 e2; subst e1 e2
  have hrun : ∀ {ad : Option Addr} {n cap : Nat}, ac.eval y = .slice ad n cap → (execOp ac.eval o).run E.P w = .ok (.value (.int .i64 n)) w := fun {ad n cap} e1 => by
    unfold execOp
    simp [ho, hcb, hca, hct, resolve, invoke, builtin, e1, Builtin.len_, run_underlying hu, goInt]
  revert h1 hy
  generalize evalA E a (cArg y) = p
  intro h1 hy
  unfold lenA at h1
  split at h1
  · injection h1 with h1
    subst h1
    obtain ⟨ad, cap, b', e0, _⟩ := inv_sl hy
    exact .value (hrun e0) (.stay hH (.ofv _))
  · injection h1 with h1
    subst h1
    have ht := inv_tree hy
    generalize hv : ac.eval y = v at *
    cases ht with
    | tree _ _ _ ad cap cs hs hcap hes' hF hw hr => exact .value (hrun rfl) (.stay hH (.ofv _))
    | nil => exact .value (hrun rfl) (.stay hH (.ofv _))
  · injection h1 with h1
    subst h1
    exact .value (hrun (inv_v hy)) (.stay hH (.ofv _))
  · cases h1

omit hA hG in
theorem sound_len_arr {t e : TypeId} {n : Nat} {y : Operand} {c : Call} (ho : o.op = .call c) (hcb : c.callee = .builtin .len) (hca : c.args = #[y]) (hct : c.argTypes = #[t]) (hu : E.P.underlying t = some (.array n e))
    (he : (evalOp E a H (.mv (.c (.v (.int .i64 n))))).run = some (x, H')) : OpGives E.P o ac w (Post W ρ H F w x H') := by
  have he' : some (AVal.v (.int .i64 n), H) = some (x, H') := he
  injection he' with he'
  injection he' with h1 h2
  subst h1 h2
  refine .value (x' := .int .i64 n) (w' := w) ?_ (.stay hH (.ofv _))
  unfold execOp
  simp [ho, hcb, hca, hct, resolve, invoke, builtin, Builtin.len_, run_underlying hu, goInt]

omit hA hH hG in
theorem equal_slice {P : Program} {t e : TypeId} (hu : P.underlying t = some (.slice e)) (ap aq : Option Addr) (n c m k : Nat) (h3 : ap.isNone = true ∨ aq.isNone = true) :
    (Op.equal t (.slice ap n c) (.slice aq m k)).run P w = .ok (ap.isNone && aq.isNone) w := by
  have h : ∀ d : Nat, (Op.equalIn (d + 1) t (.slice ap n c) (.slice aq m k)).run P w = .ok (ap.isNone && aq.isNone) w := fun d => by
    cases ap <;> cases aq <;> first | (simp at h3; done) | simp [Op.equalIn, run_underlying hu]
  exact h 9999
omit hA hH hG in
theorem equal_ptr {P : Program} {t e : TypeId} (hu : P.underlying t = some (.pointer e)) (ap aq : Option Addr) (h3 : ap.isNone = true ∨ aq.isNone = true) :
    (Op.equal t (.pointer ap) (.pointer aq)).run P w = .ok (ap.isNone && aq.isNone) w := by
  have h : ∀ d : Nat, (Op.equalIn (d + 1) t (.pointer ap) (.pointer aq)).run P w = .ok (ap.isNone && aq.isNone) w := fun d => by
    cases ap <;> cases aq <;> first | (simp at h3; done) | simp [Op.equalIn, run_underlying hu]
  exact h 9999
omit hA hH hG in
theorem equal_fn {P : Program} {t : TypeId} {ps rs : Array TypeId} {v : Bool} (hu : P.underlying t = some (.func ps rs v)) :
    (Op.equal t .nilFunc .nilFunc).run P w = .ok true w ∧ (∀ f c, (Op.equal t .nilFunc (.func f #[] c)).run P w = .ok false w) ∧ ∀ f c, (Op.equal t (.func f #[] c) .nilFunc).run P w = .ok false w := by
  have h1 : ∀ d : Nat, (Op.equalIn (d + 1) t .nilFunc .nilFunc).run P w = .ok true w := fun d => by simp [Op.equalIn, run_underlying hu]
  have h2 : ∀ (d : Nat) f c, (Op.equalIn (d + 1) t .nilFunc (.func f #[] c)).run P w = .ok false w := fun d f c => by simp [Op.equalIn, run_underlying hu]
  have h3 : ∀ (d : Nat) f c, (Op.equalIn (d + 1) t (.func f #[] c) .nilFunc).run P w = .ok false w := fun d f c => by simp [Op.equalIn, run_underlying hu]
  exact ⟨h1 9999, h2 9999, h3 9999⟩

omit hA hH hG in
/-- a comparison with nil -/
theorem nil_eq {t : TypeId} {p q : AVal} {p' q' : Value} {bp bq : Bool} (hp : WRel ρ H F w p p') (hq : WRel ρ H F w q q') (h1 : isNilV (nilKind E.P t) p = some bp) (h2 : isNilV (nilKind E.P t) q = some bq) (h3 : bp = true ∨ bq = true) :
    (Op.equal t p' q').run E.P w = .ok (bp && bq) w ∧ (∀ op y z, (eqGuard op t y z p' q').run E.P w = .ok () w) ∧ (∀ op, op = .eql ∨ op = .neq → binOp op t p' q' = if op = .eql then (do pure (.bool (← Op.equal t p' q'))) else (do pure (.bool (!(← Op.equal t p' q'))))) := by
  unfold nilKind at h1 h2
  cases hu : E.P.underlying t with
  | none => simp [hu, isNilV] at h1
  | some d =>
  cases d with
  | slice e =>
    simp only [hu] at h1 h2
    have form : ∀ {r : AVal} {r' : Value} {b : Bool}, WRel ρ H F w r r' → isNilV 0 r = some b → ∃ ad n c, r' = .slice ad n c ∧ ad.isNone = b := fun {r r' b} hr hb => by
      unfold isNilV at hb
      split at hb <;> first | cases hb | skip
      · exact ⟨none, _, _, inv_v hr, rfl⟩
      · obtain ⟨ad, cap, b', e0, _⟩ := inv_sl hr; exact ⟨some ad, _, _, e0, rfl⟩
      · split at hb
        · cases hb
        · injection hb with hb; subst hb
          have ht := inv_tree hr
          cases ht with
          | tree _ _ _ ad cap cs hs hcap hes' hF hw hr => exact ⟨some ad, _, _, rfl, rfl⟩
      all_goals contradiction
    obtain ⟨ap, np, cp, rfl, rfl⟩ := form hp h1
    obtain ⟨aq, nq, cq, rfl, rfl⟩ := form hq h2
    refine ⟨equal_slice hu ap aq np cp nq cq h3, fun op y z => ?_, fun op hop => ?_⟩
    · cases op <;> simp [eqGuard]
    · rcases hop with rfl | rfl <;> rfl
  | pointer e =>
    simp only [hu] at h1 h2
    have form : ∀ {r : AVal} {r' : Value} {b : Bool}, WRel ρ H F w r r' → isNilV 1 r = some b → ∃ ad, r' = .pointer ad ∧ ad.isNone = b := fun {r r' b} hr hb => by
      unfold isNilV at hb
      split at hb <;> first | cases hb | skip
      all_goals first
        | contradiction
        | exact ⟨none, inv_v hr, rfl⟩
        | (obtain ⟨ad, b', e0, _⟩ := inv_ptr hr; exact ⟨some ad, e0, rfl⟩)
        | (obtain ⟨ad, vs, e0, _⟩ := inv_tptr hr; exact ⟨some ad, e0, rfl⟩)
    obtain ⟨ap, rfl, rfl⟩ := form hp h1
    obtain ⟨aq, rfl, rfl⟩ := form hq h2
    refine ⟨equal_ptr hu ap aq h3, fun op y z => ?_, fun op hop => ?_⟩
    · cases op <;> simp [eqGuard]
    · rcases hop with rfl | rfl <;> rfl
  | func ps rs v =>
    simp only [hu] at h1 h2
    have form : ∀ {r : AVal} {r' : Value} {b : Bool}, WRel ρ H F w r r' → isNilV 2 r = some b → (r' = .nilFunc ∧ b = true) ∨ ∃ f c, r' = .func f #[] c ∧ b = false := fun {r r' b} hr hb => by
      unfold isNilV at hb
      split at hb <;> first | cases hb | skip
      all_goals first
        | contradiction
        | exact .inl ⟨inv_v hr, rfl⟩
        | (obtain ⟨vs, e0, _⟩ := inv_fn hr; exact .inr ⟨_, _, e0, rfl⟩)
    rcases form hp h1 with ⟨rfl, rfl⟩ | ⟨f1, c1, rfl, rfl⟩ <;> rcases form hq h2 with ⟨rfl, rfl⟩ | ⟨f2, c2, rfl, rfl⟩
    all_goals first
      | (simp at h3; done)
      | (refine ⟨?_, fun op y z => ?_, fun op hop => ?_⟩
         · first | exact (equal_fn hu).1 | exact (equal_fn hu).2.1 _ _ | exact (equal_fn hu).2.2 _ _
         · cases op <;> simp [eqGuard]
         · rcases hop with rfl | rfl <;> rfl)
  | _ => simp [hu, isNilV] at h1

theorem sound_eqn {op : BinOp} {neg : Bool} {t u : TypeId} {y z : Operand} {ts : List Nat} (ho : o.op = .binOp op t y z u) (hop : (op = .eql ∧ neg = false) ∨ (op = .neq ∧ neg = true)) (hts : tmpsOf o.op.operands.toList = some ts)
    (he : (evalOp E a H (.eqn (nilKind E.P t) neg (cArg y) (cArg z) (bareO o) ts)).run = some (x, H')) : OpGives E.P o ac w (Post W ρ H F w x H') := by
  have hy := evalA_ok hA hG y
  have hz := evalA_ok hA hG z
  simp only [evalOp] at he
  have hgen : (opt (genA E a (bareO o) ts) H).run = some (x, H') → OpGives E.P o ac w (Post W ρ H F w x H') :=
    sound_gen hA hH hG hts (fun cs b e => by rw [ho] at e; cases e)
  have hfin : ∀ {bp bq : Bool}, isNilV (nilKind E.P t) (evalA E a (cArg y)) = some bp → isNilV (nilKind E.P t) (evalA E a (cArg z)) = some bq → (bp = true ∨ bq = true) →
      (execOp ac.eval o).run E.P w = .ok (.value (.bool (match neg with | true => !(bp && bq) | false => bp && bq))) w := fun {bp bq} h1 h2 h3 => by
    obtain ⟨g1, g2, g3⟩ := nil_eq hy hz h1 h2 h3
    rcases hop with ⟨rfl, rfl⟩ | ⟨rfl, rfl⟩
    · simp only [execOp, ho, Sem.run_bind, g2, Result.andThen_ok, g3 .eql (.inl rfl), if_pos, g1, Sem.run_pure]
    · have hne : ¬ (BinOp.neq = BinOp.eql) := by decide
      simp only [execOp, ho, Sem.run_bind, g2, Result.andThen_ok, g3 .neq (.inr rfl), if_neg hne, g1, Sem.run_pure]
  unfold eqnA at he
  split at he
  · rename_i b h1 h2
    obtain ⟨q, e1, e2⟩ := opt_run he
    injection e1 with e1; injection e2 with e2 e3; subst e1 e2 e3
    refine .value (hfin h1 h2 (.inl rfl)) ?_
    cases neg <;> exact .stay hH (.ofv _)
  · rename_i h1 h2
    obtain ⟨q, e1, e2⟩ := opt_run he
    injection e1 with e1; injection e2 with e2 e3; subst e1 e2 e3
    refine .value (hfin h1 h2 (.inr rfl)) ?_
    cases neg <;> exact .stay hH (.ofv _)
  · exact hgen he
end
end
end Go.Ev
