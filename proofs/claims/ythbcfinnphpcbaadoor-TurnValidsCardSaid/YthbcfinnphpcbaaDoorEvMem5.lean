/- Cuts, function values, fields, comparisons, the rest (own work). -/
import Derived.Test.YthbcfinnphpcbaaDoorEvMem4
namespace Go.Ev
open Go
section
variable {W : Nat → Prop} {ρ : Rho} {H H' : List ABlk} {F : Fz} {w : World} {E : Env} {o : Oper} {a : List AVal} {ac : Act} {x : AVal}

theorem lookT_ok : ∀ (ts : List Nat) (vs : List Value) (t : Nat) (g : Nat → Option Value), mapO g ts = some vs → t ∈ ts → g t = some (lookT ts vs t)
  | [], _, _, _, _, h => by simp at h
  | s :: ts, vs, t, g, hm, h => by
    rw [mapO_cons] at hm
    cases hg : g s with
    | none => simp [hg] at hm
    | some v =>
    cases hr : mapO g ts with
    | none => simp [hg, hr] at hm
    | some r =>
    simp [hg, hr] at hm
    subst hm
    simp only [lookT]
    cases hb : Nat.beq s t with
    | true => have := Nat.eq_of_beq_eq_true hb; subst this; exact hg
    | false =>
      have hne := Nat.ne_of_beq_eq_false hb
      rcases List.mem_cons.1 h with h | h
      · exact absurd h.symm hne
      · exact lookT_ok ts r t g hr h

theorem tmpsOf_ok : ∀ (l : List Operand) (ts : List Nat), tmpsOf l = some ts → ∀ x ∈ l, (∀ t, x = .tmp t → t ∈ ts) ∧ ∀ g, x ≠ .global g
  | [], _, _, _, hx => by simp at hx
  | y :: l, ts, h, x, hx => by
    cases y with
    | tmp t =>
      simp only [tmpsOf] at h
      cases hr : tmpsOf l with
      | none => simp [hr] at h
      | some r =>
      simp [hr] at h
      subst h
      rcases List.mem_cons.1 hx with rfl | hx
      · exact ⟨fun t' e => (by injection e with e; simp [e]), fun g e => (by cases e)⟩
      · obtain ⟨h1, h2⟩ := tmpsOf_ok l r hr x hx
        exact ⟨fun t' e => by simp [h1 t' e], h2⟩
    | global g => simp [tmpsOf] at h
    | const v =>
      rcases List.mem_cons.1 hx with rfl | hx
      · exact ⟨fun t' e => (by cases e), fun g e => (by cases e)⟩
      · exact tmpsOf_ok l ts h x hx
    | func f =>
      rcases List.mem_cons.1 hx with rfl | hx
      · exact ⟨fun t' e => (by cases e), fun g e => (by cases e)⟩
      · exact tmpsOf_ok l ts h x hx

section
variable (hA : ARel ρ H F w a ac.tmps) (hH : HRel W ρ H F w) (hG : GOk E F w)
include hA hH hG

theorem sound_gen {ts : List Nat} (hts : tmpsOf o.op.operands.toList = some ts) (hs : ∀ cs b, o.op ≠ .select cs b) (he : (opt (genA E a (bareO o) ts) H).run = some (x, H')) : OpGives E.P o ac w (Post W ρ H F w x H') := by
  obtain ⟨y, h1, h2⟩ := opt_run he
  injection h2 with e1 e2; subst e1 e2
  unfold genA at h1
  cases hm : mapO (fun t => toVal (evalA E a (.t t))) ts with
  | none => simp [hm] at h1
  | some vs =>
  simp only [hm, evalGen] at h1
  have hcongr : execOp ac.eval o = execOp (rhoOf ts vs) (bareO o) := by
    have : execOp (rhoOf ts vs) (bareO o) = execOp (rhoOf ts vs) o := rfl
    rw [this]
    refine execOp_congr o hs fun z hz => ?_
    obtain ⟨h3, h4⟩ := tmpsOf_ok _ ts hts z (by simpa using hz)
    cases z with
    | tmp t =>
      have := lookT_ok ts vs t _ hm (h3 t rfl)
      exact toVal_ok (evalA_ok hA hG (.tmp t)) this
    | const v => rfl
    | func f => rfl
    | global g => exact absurd rfl (h4 g)
  split at h1
  · rename_i v hr
    injection h1 with h1
    subst h1
    exact .value (x' := v) (w' := w) (by rw [hcongr]; exact pureRun_ok hr w) (.stay hH (.ofVal v))
  · cases h1

omit hH in
theorem bound_ok {z : Option Operand} {n m : Nat} {code : BoundsCode} {d : Nat} (he : ((match z.map (fun y => evalA E a (cArg y)) with
    | none => DT.ret d
    | some x => match intOf? x with
      | some m => .guard (inB m (n + 1)) (.ret m.toNat)
      | none => .fail) : DT Nat).run = some m) :
    (z = none ∧ m = d) ∨ ∃ y, z = some y ∧ m ≤ n ∧ ∀ n', n ≤ n' → (Instr.sliceBound (ac.eval y) n' code).run E.P w = .ok m w := by
  cases z with
  | none => exact .inl ⟨rfl, (Option.some.inj he).symm⟩
  | some y =>
    right
    simp only [Option.map_some] at he
    cases hi : intOf? (evalA E a (cArg y)) with
    | none => simp [hi] at he
    | some k =>
    simp only [hi] at he
    obtain ⟨h1, h2⟩ := DT.run_guard_some he
    have := Option.some.inj h2
    subst this
    obtain ⟨g1, g2, g3⟩ := inB_ok h1
    obtain ⟨kk, e⟩ := intOf_ok hi (evalA_ok hA hG y)
    refine ⟨y, rfl, by omega, fun n' hn => ?_⟩
    have hle : k ≤ (n' : Int) := by omega
    simp [Instr.sliceBound, e, asIntOf, g1, hle]

omit hH in
theorem boundsA_ok {n l h : Nat} {lo hi : Option Operand} (he : (boundsA n ((lo.map cArg).map (evalA E a)) ((hi.map cArg).map (evalA E a))).run = some (l, h)) :
    l ≤ h ∧ h ≤ n ∧ ∀ cap, n ≤ cap → (Instr.sliceBounds true n cap (lo.map ac.eval) (hi.map ac.eval) none).run E.P w = .ok (l, h, cap) w := by
  unfold boundsA at he
  simp only [Option.map_map, Function.comp_def] at he
  obtain ⟨h', h1, h2⟩ := DT.run_bind_some he
  have hb1 := bound_ok hA hG (z := hi) (n := n) (d := n) (code := .sliceAcap) h1
  have h2' : (l, h).2 = h' ∧ ((lo = none ∧ l = 0) ∨ ∃ y, lo = some y ∧ l ≤ h' ∧ ∀ n', h' ≤ n' → (Instr.sliceBound (ac.eval y) n' .sliceB).run E.P w = .ok l w) := by
    cases lo with
    | none =>
      have := Option.some.inj h2
      injection this with e1 e2
      exact ⟨e2.symm, .inl ⟨rfl, e1.symm⟩⟩
    | some y =>
      simp only [Option.map_some] at h2
      cases hi2 : intOf? (evalA E a (cArg y)) with
      | none => simp [hi2] at h2
      | some k =>
      simp only [hi2] at h2
      obtain ⟨g1, g2⟩ := DT.run_guard_some h2
      have := Option.some.inj g2
      injection this with e1 e2
      have hb2 := bound_ok hA hG (z := some y) (n := h') (d := 0) (m := k.toNat) (code := .sliceB) (by simp only [Option.map_some, hi2]; rw [show (DT.guard (inB k (h' + 1)) (DT.ret k.toNat)).run = some k.toNat by unfold DT.guard; rw [DT.run_ite, g1]; rfl])
      rcases hb2 with ⟨h5, _⟩ | ⟨y', h5, h6, h7⟩
      · cases h5
      · exact ⟨e2.symm, .inr ⟨y', h5, by omega, fun n' hn => by rw [h7 n' hn, e1]⟩⟩
  obtain ⟨e, hl⟩ := h2'
  simp only at e
  subst e
  have hhn : h ≤ n := by rcases hb1 with ⟨_, h3⟩ | ⟨_, _, h3, _⟩ <;> omega
  have hlh : l ≤ h := by rcases hl with ⟨_, h3⟩ | ⟨_, _, h3, _⟩ <;> omega
  refine ⟨hlh, hhn, fun cap hcap => ?_⟩
  unfold Instr.sliceBounds
  rcases hb1 with ⟨rfl, rfl⟩ | ⟨y1, rfl, _, k1⟩ <;> rcases hl with ⟨rfl, rfl⟩ | ⟨y2, rfl, _, k2⟩
  · simp
  · simp [k2 h (Nat.le_refl _)]
  · simp [k1 cap hcap]
  · simp [k1 cap hcap, k2 h (Nat.le_refl _)]

theorem sound_slice {t e : TypeId} {y : Operand} {lo hi : Option Operand} {ei : TypeInfo} (ho : o.op = .slice t y lo hi none) (hu : E.P.underlying t = some (.slice e)) (hei : E.P.info? e = some ei)
    (he : (evalOp E a H (.slice (szT E.P e) (cArg y) (lo.map cArg) (hi.map cArg))).run = some (x, H')) : OpGives E.P o ac w (Post W ρ H F w x H') := by
  have hy := evalA_ok hA hG y
  have hes : szT E.P e = ei.size := by simp [szT, hei]
  have hrun : ∀ {ad : Option Addr} {n cap l h : Nat}, ac.eval y = .slice ad n cap → (Instr.sliceBounds true n cap (lo.map ac.eval) (hi.map ac.eval) none).run E.P w = .ok (l, h, cap) w →
      (execOp ac.eval o).run E.P w = .ok (.value (.slice (if cap = l then ad else ad.map (·.add (l * ei.size))) (h - l) (cap - l))) w := fun {ad n cap l h} e1 e2 => by
    unfold execOp
    simp [ho, Instr.sliceAt, run_underlying hu, Instr.slice, e1, e2, sizeOf, typeInfo, hei]
  rw [hes] at he
  simp only [evalOp] at he
  revert he hy
  generalize evalA E a (cArg y) = p
  intro he hy
  split at he
  · rename_i id off n g
    cases hbk : blkAt H id g with
    | none => simp [hbk] at he
    | some b =>
    obtain ⟨hb, hd, hg⟩ := blkAt_some hbk
    cases hbe : Nat.beq b.es ei.size with
    | false => simp [hbk, hbe] at he
    | true =>
    have hbes := Nat.eq_of_beq_eq_true hbe
    simp only [hbk, hbe] at he
    obtain ⟨⟨l, h⟩, h1, h2⟩ := DT.run_bind_some he
    have he' := Option.some.inj h2
    injection he' with e1 e2; subst e1 e2
    obtain ⟨g1, g2, g3⟩ := boundsA_ok hA hG h1
    obtain ⟨ad, cap, b', e0, hb', hd', hg', hn, hspot, hcm0, hh⟩ := inv_sl hy
    have : b' = b := Option.some.inj (hb'.symm.trans hb)
    subst this
    obtain ⟨h3, h4, h5⟩ := hh hg
    have hr := hrun e0 (g3 cap hn)
    have hform : (if cap = l then some ad else (some ad).map (·.add (l * ei.size))) = some (if cap = l then ad else ad.add (l * ei.size)) := by split <;> rfl
    rw [hform] at hr
    refine .value hr (.stay hH (.val (.cell (.sl _ _ _ _ _ _ b' hb hd hg' (by omega) ?_ (by omega) fun _ => ⟨?_, ?_, by omega⟩))))
    · split
      · exact hspot
      · rw [add_spot hspot]
    · by_cases hc : cap = l
      · rw [if_pos hc]
        rcases Nat.eq_zero_or_pos l with h0 | h0
        · subst h0
          rcases h3 with h3 | h3
          · exact .inl ⟨by omega, by omega⟩
          · exact .inr (by simpa using h3)
        · exact .inl ⟨by omega, by omega⟩
      · rw [if_neg hc]
        right
        have had := h3.resolve_left (by omega)
        rw [add_spot hspot, had, hbes, Nat.add_mul]
        simp; omega
    · rw [← h4]
      congr 1
      omega
  · rename_i es' n get
    cases hbe : Nat.beq es' ei.size with
    | false => simp [hbe] at he
    | true =>
    have hbes := Nat.eq_of_beq_eq_true hbe
    simp only [hbe] at he
    obtain ⟨⟨l, h⟩, h1, h2⟩ := DT.run_bind_some he
    have he' := Option.some.inj h2
    injection he' with e1 e2; subst e1 e2
    obtain ⟨g1, g2, g3⟩ := boundsA_ok hA hG h1
    have ht := inv_tree hy
    generalize hv : ac.eval y = v at *
    cases ht with
    | tree _ _ _ ad cap cs hs hcap hes' hF hw hr =>
    have hr0 := hrun rfl (g3 cap hcap)
    have hform : (if cap = l then some ad else (some ad).map (·.add (l * ei.size))) = some (if cap = l then ad else ad.add (l * ei.size)) := by split <;> rfl
    rw [hform] at hr0
    refine .value hr0 (.stay hH (.val (.cell (.mem ?_))))
    by_cases hc : cap = l
    · rw [if_pos hc]
      exact .tree _ _ _ ad _ (fun i c => cs (l + i) c) (fun h => hs (by omega)) (by omega) (fun i hi => absurd hi (by omega)) (fun i c hi => absurd hi (by omega)) (fun i c hi => absurd hi (by omega)) (fun i c hi => absurd hi (by omega))
    · rw [if_neg hc]
      have e3 : ∀ i c, ad.off + l * ei.size + (i * es' + c) = ad.off + ((l + i) * es' + c) := fun i c => by rw [Nat.add_mul, hbes]; omega
      refine .tree _ _ _ _ _ (fun i c => cs (l + i) c) (fun h => by rw [add_spot (hs (by omega))]) (by omega) (fun i hi => hes' _ (by omega)) (fun i c hi hc' => ?_) (fun i c hi hc' => ?_) (fun i c hi hc' => hr (l + i) c (by omega) hc')
      · rw [add_spot (hs (by omega))]; simp only; rw [e3]; exact hF _ _ (by omega) hc'
      · rw [add_spot (hs (by omega))]; simp only; rw [e3]; exact hw _ _ (by omega) hc'
    | nil =>
      have hr := hrun rfl (g3 0 (Nat.le_refl _))
      have : l = 0 := by omega
      have : h = 0 := by omega
      subst l h
      exact .value hr (.stay hH (.val (.cell (.mem (.nil _ _)))))
  · obtain ⟨⟨l, h⟩, h1, h2⟩ := DT.run_bind_some he
    have he' := Option.some.inj h2
    injection he' with e1 e2; subst e1 e2
    obtain ⟨g1, g2, g3⟩ := boundsA_ok hA hG h1
    have hr := hrun (inv_v hy) (g3 0 (Nat.le_refl _))
    have : l = 0 := by omega
    have : h = 0 := by omega
    subst l h
    exact .value hr (.stay hH (.ofv _))
  · cases he

end
end
end Go.Ev
