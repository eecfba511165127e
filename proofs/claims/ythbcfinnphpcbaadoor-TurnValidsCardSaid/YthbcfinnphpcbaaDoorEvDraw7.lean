/- A region in whatever order: new zeros, start and end (own work). -/
import Derived.Test.YthbcfinnphpcbaaDoorEvDraw6
namespace Go.Ev
open Go

section
variable {W : Nat → Prop} {ρ0 : Rho} {H0 : List ABlk} {F0 : Fz} {w0 w : World}
variable {tr : Bool} {E : Env} {ops : Array Oper} {M : List Nat} {ks : List (Nat × PI)} {s : St} {U T : Nat → St}
variable (hD : DC tr E.P ops M ks) (hT : Traj E ops ks s U T) (hin : ∀ j, j < ops.size → kdAt tr E.P ops j = 0 → ∀ d, dsAt ops j = some d → d < s.a.length) (hlen : H0.length ≤ s.H.length)
include hD hT hin hlen

theorem step_alloc {m : Nat} {listed : Array Bool} {ac : Act} (hR : RInv W ρ0 H0 F0 w0 tr E ops s.a U T m listed ac w) {i : Nat} (hi : i < ops.size) (hk : kdAt tr E.P ops i = 0) (hnx : ¬ exOf listed i) (hdi : ∀ j ∈ direct (opAt ops i), exOf listed j)
    {Q : Exit → Act → World → Prop} {K : Act → World → Prop} (hK : ∀ ac' w', RInv W ρ0 H0 F0 w0 tr E ops s.a U T m (listed.setIfInBounds i true) ac' w' → K ac' w') : wpOp E.P ops Q i K ac w := by
  obtain ⟨t, z, d, ho, hgn, hz, hd, hU⟩ := u_alloc hD hT hi hk
  obtain ⟨hd0, ρ, F, hAdv, hH, hA⟩ := hR.inv
  simp only at hAdv hH hA
  generalize hHS : killP (T m).H (deadIds tr E.P ops U listed) = HS at hAdv hH hA
  have hHSlen : HS.length = (T m).H.length := by rw [← hHS, killP_len]
  have his : i < listed.size := by rw [hR.size]; exact hi
  -- the block stands in the text's heap, as it was made
  have hblk : (T m).H[(U i).H.length]? = some (zeroBlk z) := by
    have h1 := t_zero hD hT hin hi hk m hR.hm fun h h1 h2 => by
      cases hc : isBefore M i h with
      | false => rfl
      | true =>
        have hh : h < ops.size := by have := hR.hm; omega
        exact absurd (before_ex hD hR hh (hR.closed h hh ((hR.heavy h hh h2).2 h1)) hi hc) hnx
    obtain ⟨t', z', h2, h3, h4⟩ := u_zero hD hT hi hk
    have : t' = t := by rw [ho] at h2; injection h2 with h2; exact h2.symm
    subst this
    have : z' = z := Option.some.inj (h3.symm.trans hz)
    subst this
    rw [h1, h4]
  have hidlt : (U i).H.length < HS.length := by rw [hHSlen]; exact (List.getElem?_eq_some_iff.1 hblk).1
  have hidge : s.H.length ≤ (U i).H.length := (u_base hD hT (by omega)).1
  have hdead : deadIds tr E.P ops U listed (U i).H.length := ⟨i, hi, hk, hnx, rfl⟩
  have hinj : ∀ b, b < ops.size → kdAt tr E.P ops b = 0 → (U i).H.length = (U b).H.length → b = i := fun b hb hkb he => by
    rcases Nat.lt_trichotomy b i with h | h | h
    · have := u_lt hD hT h (by omega) hkb; omega
    · exact h
    · have := u_lt hD hT h (by omega) hk; omega
  have hdead' : ∀ id, deadIds tr E.P ops U (listed.setIfInBounds i true) id ↔ deadIds tr E.P ops U listed id ∧ id ≠ (U i).H.length := fun id => by
    constructor
    · rintro ⟨b, h1, h2, h3, h4⟩
      refine ⟨⟨b, h1, h2, fun h => h3 ((ex_set his).2 (.inl h)), h4⟩, fun e => h3 ((ex_set his).2 (.inr ?_))⟩
      exact hinj b h1 h2 (e.symm.trans h4)
    · rintro ⟨⟨b, h1, h2, h3, h4⟩, h5⟩
      refine ⟨b, h1, h2, fun h => ?_, h4⟩
      rcases (ex_set his).1 h with h | h
      · exact h3 h
      · subst h; exact h5 h4
  generalize hHS' : killP (T m).H (deadIds tr E.P ops U (listed.setIfInBounds i true)) = HS'
  have hoff : ∀ id, id ≠ (U i).H.length → HS'[id]? = HS[id]? := fun id hne => by
    rw [← hHS', ← hHS]
    by_cases h : deadIds tr E.P ops U listed id
    · rw [killP_on h, killP_on ((hdead' id).2 ⟨h, hne⟩)]
    · rw [killP_off h, killP_off fun h' => h ((hdead' id).1 h').1]
  have hon : HS'[(U i).H.length]? = some (zeroBlk z) := by
    rw [← hHS', killP_off fun h' => ((hdead' _).1 h').2 rfl]
    exact hblk
  have hHSdead : ∀ b, HS[(U i).H.length]? = some b → b.dead = true := fun b hb => by
    rw [← hHS, killP_on hdead] at hb
    simp only [Option.map_eq_some_iff] at hb
    obtain ⟨c, _, rfl⟩ := hb
    rfl
  -- the operation
  have hev : (evalOp E (maskP (T ops.size).a s.a (openSlots ops listed)) HS (.alloc z)).run = some (.ptr HS.length 0 0 0, HS ++ [zeroBlk z]) := by
    simp only [evalOp, DT.run_ret, len_eq, newBlk, app_eq, zeroBlk]
  unfold wpOp
  have hw : Region.wanted (opAt ops i) (yielded ops ac.tmps) = true := by simp [Region.wanted, hgn]
  simp only [opAt_eq hi, hw]
  rw [if_pos trivial]
  refine .inl (sound_alloc hH ho hz hev K Q fun x' w' hp => hK _ _ (RInv.next hD hR hi hdi hR.hm (fun j hj hkj => ?_) (x := .ptr (U i).H.length 0 0 0) (fun d' hd' hlt => ?_) ?_))
  · rw [ex_set his, ← hR.heavy j hj hkj]
    exact ⟨fun h => h.resolve_right fun e => by subst e; omega, .inl⟩
  · refine a_alloc hD hT hi hk hd' ?_ (Nat.le_refl _)
    rw [← (a_len hD hT ops.size (Nat.le_refl _)).2]
    exact hlt
  · obtain ⟨ρ', F', a1, a2, a3⟩ := hp
    rw [hHS']
    have hadv := hAdv.trans a1
    let ρ2 : Rho := fun id => if id = (U i).H.length then ρ' HS.length else ρ' id
    have hρ2 : ∀ id, id ≠ (U i).H.length → ρ2 id = ρ' id := fun id h => if_neg h
    have hρ2' : ρ2 (U i).H.length = ρ' HS.length := if_pos rfl
    have hold : ∀ id b, HS'[id]? = some b → id ≠ (U i).H.length → (HS ++ [zeroBlk z])[id]? = some b := fun id b hb hne => by
      rw [hoff id hne] at hb
      rw [List.getElem?_append_left (List.getElem?_eq_some_iff.1 hb).1]
      exact hb
    have hN : (HS ++ [zeroBlk z])[HS.length]? = some (zeroBlk z) := by simp
    refine ⟨(put_defers _ _).trans hd0, ρ2, F', ⟨hadv.ext, fun id b hb => ?_, hadv.more, hadv.new, fun id b' hb' hn => ?_⟩, ?_, ?_⟩
    · have hidH : id < s.H.length := by have := (List.getElem?_eq_some_iff.1 hb).1; omega
      have hne : id ≠ (U i).H.length := by omega
      obtain ⟨b', h1, h2⟩ := hadv.heap id b hb
      rw [List.getElem?_append_left (by omega)] at h1
      refine ⟨b', by rw [hoff id hne]; exact h1, ?_⟩
      rw [hρ2 id hne]
      exact h2
    · by_cases he : id = (U i).H.length
      · subst he
        rw [hρ2']
        exact hadv.fresh HS.length _ hN fun b hb => by have := (List.getElem?_eq_some_iff.1 hb).1; omega
      · rw [hρ2 id he]
        exact hadv.fresh id b' (hold id b' hb' he) hn
    · refine a2.pull (fun id => if id = (U i).H.length then HS.length else id) (fun id b hb hdd => ?_) fun id id' b b' hb hdd hb' hdd' he => ?_
      · by_cases e : id = (U i).H.length
        · subst e
          simp only [if_true]
          have : b = zeroBlk z := Option.some.inj (hb.symm.trans hon)
          subst this
          exact ⟨hN, hρ2'⟩
        · simp only [if_neg e]
          exact ⟨hold id b hb e, hρ2 id e⟩
      · have hlt : ∀ id b, HS'[id]? = some b → id ≠ (U i).H.length → id < HS.length := fun id b hb hne => by
          rw [hoff id hne] at hb
          exact (List.getElem?_eq_some_iff.1 hb).1
        by_cases e : id = (U i).H.length
        · by_cases e' : id' = (U i).H.length
          · rw [e, e']
          · simp only [if_pos e, if_neg e'] at he
            have := hlt id' b' hb' e'
            omega
        · by_cases e' : id' = (U i).H.length
          · simp only [if_neg e, if_pos e'] at he
            have := hlt id b hb e
            omega
          · simpa only [if_neg e, if_neg e'] using he
    · have hA2 : ARel ρ2 HS' F' w' (maskP (T ops.size).a s.a (openSlots ops listed)) ac.tmps := by
        refine hA.carry (fun id b hb hdd => ?_) a1.more a1.ext.cells
        have hne : id ≠ (U i).H.length := fun e => by
          subst e
          rw [hHSdead b hb] at hdd
          cases hdd
        obtain ⟨b', h1, h2, h3, h4⟩ := a1.heap id b hb
        rw [List.getElem?_append_left (List.getElem?_eq_some_iff.1 hb).1] at h1
        refine ⟨b', by rw [hoff id hne]; exact h1, h2.trans hdd, h3, fun hg => ?_⟩
        rw [hρ2 id hne]
        exact h4 hg
      have hW : WRel ρ2 HS' F' w' (.ptr (U i).H.length 0 0 0) x' := by
        obtain ⟨ad, b, e, h1, h2, h3, h4⟩ := inv_ptr a3
        have : b = zeroBlk z := Option.some.inj (h1.symm.trans hN)
        subst this
        rw [e]
        refine .val (.cell (.ptr _ 0 0 0 ad _ hon rfl (Nat.le_refl _) fun _ => ?_))
        rw [hρ2']
        exact h4 rfl
      exact hA2.putA (dsAt ops i) hW

omit hin in
/-- the beginning -/
theorem draw_start {ac : Act} (hI : Inv W ρ0 H0 F0 w0 s ac w) :
    RInv W ρ0 H0 F0 w0 tr E ops s.a U T 0 (Array.replicate ops.size false) ac { w with drawn := w.drawn + 1 } := by
  have hnx : ∀ j, j < ops.size → ¬ exOf (Array.replicate ops.size false) j := fun j hj h => by
    unfold exOf at h
    simp [Array.getD, hj] at h
  obtain ⟨hd0, ρ, F, hAdv, hH, hA⟩ := hI
  have hdead : ∀ id, deadIds tr E.P ops U (Array.replicate ops.size false) id → s.H.length ≤ id := fun id ⟨b, h1, _, _, h4⟩ => by
    have := (u_base hD hT (j := b) (by omega)).1
    omega
  have hlow : ∀ id, id < s.H.length → (killP (T 0).H (deadIds tr E.P ops U (Array.replicate ops.size false)))[id]? = s.H[id]? := fun id hid => by
    rw [killP_off fun h => by have := hdead id h; omega, hT.t0]
    exact (u_base hD hT (Nat.le_refl _)).2 id hid
  have hhigh : ∀ id b, (killP (T 0).H (deadIds tr E.P ops U (Array.replicate ops.size false)))[id]? = some b → s.H.length ≤ id → b.dead = true := fun id b hb hge => by
    have hlt : id < (T 0).H.length := by
      have := (List.getElem?_eq_some_iff.1 hb).1
      rwa [killP_len] at this
    rw [hT.t0] at hlt
    obtain ⟨j, h1, h2, h3⟩ := u_all hD hT ops.size (Nat.le_refl _) id hge hlt
    rw [killP_on (show deadIds tr E.P ops U (Array.replicate ops.size false) id from ⟨j, h1, h2, hnx j h1, h3⟩)] at hb
    simp only [Option.map_eq_some_iff] at hb
    obtain ⟨c, _, rfl⟩ := hb
    rfl
  have hH' : HRel W ρ s.H F { w with drawn := w.drawn + 1 } := hH.same rfl
  have hAdv' : Adv W ρ0 H0 F0 w0 ρ s.H F { w with drawn := w.drawn + 1 } := hAdv.trans (.same rfl rfl rfl rfl)
  let ρ1 : Rho := fun id => if id < s.H.length then ρ id else ⟨w.heap.size, 0, 0⟩
  have hρ1 : ∀ id, id < s.H.length → ρ1 id = ρ id := fun id h => if_pos h
  have hlive : ∀ id b, (killP (T 0).H (deadIds tr E.P ops U (Array.replicate ops.size false)))[id]? = some b → b.dead = false → id < s.H.length := fun id b hb hd => by
    rcases Nat.lt_or_ge id s.H.length with h | h
    · exact h
    · rw [hhigh id b hb h] at hd; cases hd
  refine ⟨by simp, fun j hj hx => absurd hx (hnx j hj), Nat.zero_le _, fun j hj _ => ⟨fun h => absurd h (hnx j hj), fun h => by omega⟩, hd0, ρ1, F, ⟨hAdv'.ext, fun id b hb => ?_, hAdv'.more, hAdv'.new, fun id b hb hn => ?_⟩, ?_, ?_⟩
  · have hid : id < s.H.length := by have := (List.getElem?_eq_some_iff.1 hb).1; omega
    obtain ⟨b', h1, h2⟩ := hAdv'.heap id b hb
    refine ⟨b', (hlow id hid).trans h1, ?_⟩
    rw [hρ1 id hid]
    exact h2
  · simp only at hb
    by_cases hid : id < s.H.length
    · rw [hlow id hid] at hb
      rw [hρ1 id hid]
      exact hAdv'.fresh id b hb hn
    · show W (if id < s.H.length then ρ id else ⟨w.heap.size, 0, 0⟩).blk
      rw [if_neg hid]
      exact hH.new _ (Nat.le_refl _)
  · refine hH'.pull (fun id => id) (fun id b hb hd => ?_) fun _ _ _ _ _ _ _ _ h => h
    have hid := hlive id b hb hd
    rw [← hlow id hid]
    exact ⟨hb, hρ1 id hid⟩
  · have hcarry : Carry ρ s.H ρ1 (killP (T 0).H (deadIds tr E.P ops U (Array.replicate ops.size false))) := fun id b hb hd => by
      have hid := (List.getElem?_eq_some_iff.1 hb).1
      exact ⟨b, (hlow id hid).trans hb, hd, Nat.le_refl _, fun _ => ⟨hρ1 id hid, rfl, Nat.le_refl _⟩⟩
    refine ⟨by rw [maskP_len, (a_len hD hT ops.size (Nat.le_refl _)).2]; exact hA.1, fun t x x' hx hx' => ?_⟩
    simp only at hx
    by_cases ht : openSlots ops (Array.replicate ops.size false) t
    · have hlt : t < (T ops.size).a.length := by
        have := (List.getElem?_eq_some_iff.1 hx).1
        rwa [maskP_len] at this
      rw [maskP_on ht hlt] at hx
      injection hx with hx
      rw [(a_len hD hT ops.size (Nat.le_refl _)).2] at hlt
      rw [List.getElem?_eq_getElem hlt, Option.getD_some] at hx
      exact WRel.carry (w := w) (w' := { w with drawn := w.drawn + 1 }) hcarry (fun _ _ h => h) (fun _ _ _ => rfl) (hA.2 t x x' (by rw [← hx]; exact List.getElem?_eq_getElem hlt) hx')
    · rw [maskP_off ht] at hx
      have hno : ∀ j, j < ops.size → dsAt ops j ≠ some t := fun j hj he => ht ⟨j, hj, he, hnx j hj⟩
      have h1 := t_slot hD hT (t := t) ops.size 0 (by omega) fun j _ h2 _ => hno j (by omega)
      have h2 := u_slot hD hT (t := t) ops.size 0 (by omega) fun j _ h2 _ => hno j (by omega)
      rw [Nat.zero_add] at h1 h2
      rw [h1, hT.t0, h2, hT.u0] at hx
      exact WRel.carry (w := w) (w' := { w with drawn := w.drawn + 1 }) hcarry (fun _ _ h => h) (fun _ _ _ => rfl) (hA.2 t x x' hx hx')

omit hin hlen in
/-- the end -/
theorem draw_end {m : Nat} {listed : Array Bool} {ac : Act} (hR : RInv W ρ0 H0 F0 w0 tr E ops s.a U T m listed ac w) (hall : ∀ j, j < ops.size → exOf listed j) : Inv W ρ0 H0 F0 w0 (T ops.size) ac w := by
  have h1 : maskP (T ops.size).a s.a (openSlots ops listed) = (T ops.size).a := maskP_none fun t ⟨j, h1, _, h3⟩ => h3 (hall j h1)
  have h2 : killP (T m).H (deadIds tr E.P ops U listed) = (T ops.size).H := by
    rw [killP_none fun id ⟨b, h1, _, h3, _⟩ => h3 (hall b h1)]
    have := t_same hD hT (ops.size - m) m (by have := hR.hm; omega) fun j h3 h4 hk => by
      have hj : j < ops.size := by have := hR.hm; omega
      have := (hR.heavy j hj hk).1 (hall j hj)
      omega
    rw [show m + (ops.size - m) = ops.size by have := hR.hm; omega] at this
    exact this.symm
  have h3 := hR.inv
  rw [h1, h2] at h3
  exact h3

omit hT hin hlen in
theorem ready_nil {listed : Array Bool} (hsz : listed.size = ops.size) (h : Region.ready .any ops listed = []) : ∀ j, j < ops.size → exOf listed j := by
  intro j
  induction j using Nat.strongRecOn with
  | _ j ih =>
    intro hj
    apply Classical.byContradiction
    intro hn
    have hmem : j ∈ Region.ready .any ops listed := by
      unfold Region.ready
      rw [List.mem_filter]
      refine ⟨List.mem_range.2 hj, ?_⟩
      rw [opAt_eq hj]
      simp only [Option.map_some, Option.getD_some, Bool.and_eq_true, Bool.not_eq_true']
      refine ⟨by unfold exOf at hn; simpa using hn, ?_⟩
      rw [Array.all_eq_true_iff_forall_mem]
      intro e he
      cases hb : Region.binds .any e with
      | false => rfl
      | true =>
        have hd : e.on ∈ direct (opAt ops j) := mem_direct.2 ⟨e, he, hb, rfl⟩
        have hlt := rows_lt hD.rows (opAt_eq hj) hd
        have := ih e.on hlt (by omega)
        unfold exOf at this
        have h2 : e.on < listed.size := by omega
        simp only [Array.getD, h2, dite_true] at this ⊢
        simpa using this
    rw [h] at hmem
    cases hmem

/-- how many have not come up -/
noncomputable def openCount (listed : Array Bool) : Nat := (listed.toList.filter fun b => !b).length
omit hD hT hin hlen in
theorem openCount_set : ∀ (l : List Bool) (i : Nat), l[i]? = some false → ((l.set i true).filter fun b => !b).length + 1 = (l.filter fun b => !b).length
  | [], i, h => by simp at h
  | b :: l, 0, h => by
    simp at h
    subst h
    simp
  | b :: l, i + 1, h => by
    have ih := openCount_set l i (by simpa using h)
    simp only [List.set_cons_succ, List.filter_cons]
    cases b <;> simp [ih]
omit hD hT hin hlen in
theorem openCount_zero {listed : Array Bool} (h : openCount listed = 0) (j : Nat) : exOf listed j := by
  unfold openCount at h
  unfold exOf
  rw [List.length_eq_zero_iff, List.filter_eq_nil_iff] at h
  rcases Nat.lt_or_ge j listed.size with hj | hj
  · have := h listed[j] (by simp)
    simpa [Array.getD, hj] using this
  · simp [Array.getD, Nat.not_lt.2 hj]

variable (hpairs : pairsOk E (T ops.size).a (pairsOf ops.size M ks) = true) (hG0 : GOk E F0 w0) (hcalls : ∀ f, FnOk E.P E.G f (E.call f))
include hpairs hG0 hcalls
theorem draw_any {Q : Exit → Act → World → Prop} (hQ : ∀ ac' w', Inv W ρ0 H0 F0 w0 (T ops.size) ac' w' → Q .normal ac' w') : ∀ (fuel m : Nat) (listed : Array Bool) (ac : Act) (w : World), RInv W ρ0 H0 F0 w0 tr E ops s.a U T m listed ac w → openCount listed ≤ fuel → wpAny E.P .any ops Q fuel listed ac w
  | 0, m, listed, ac, w, hR, hc => by
    have hall : ∀ j, exOf listed j := openCount_zero (by omega)
    refine ⟨?_, hQ _ _ (draw_end hD hT hR fun j _ => hall j)⟩
    rw [List.eq_nil_iff_forall_not_mem]
    intro i hi
    exact (mem_ready' hi).2.1 (hall i)
  | fuel + 1, m, listed, ac, w, hR, hc => by
    refine ⟨fun h => hQ _ _ (draw_end hD hT hR (ready_nil hD hR.size h)), fun i hi => ?_⟩
    obtain ⟨h1, h2, h3⟩ := mem_ready' hi
    have hdi : ∀ j ∈ direct (opAt ops i), exOf listed j := fun j hj => h3 hR.size j hj (by have := rows_lt hD.rows (opAt_eq h1) hj; omega)
    have hcount : openCount (listed.setIfInBounds i true) ≤ fuel := by
      have his : i < listed.size := by rw [hR.size]; exact h1
      have hf : listed.toList[i]? = some false := by
        have : listed.getD i true = false := by unfold exOf at h2; simpa using h2
        simp only [Array.getD, his, dite_true] at this
        rw [List.getElem?_eq_getElem (by simpa using his)]
        congr 1
      have := openCount_set listed.toList i hf
      unfold openCount at hc ⊢
      rw [Array.toList_setIfInBounds]
      omega
    rcases kd_cases (tr := tr) (P := E.P) (ops := ops) i with hk | hk | hk
    · exact step_alloc hD hT hin hlen hR h1 hk h2 hdi fun ac' w' hR' => draw_any hQ fuel m _ ac' w' hR' hcount
    · exact step_float hD hT hin hpairs hG0 hcalls hR h1 hk h2 hdi fun ac' w' hR' => draw_any hQ fuel m _ ac' w' hR' hcount
    · exact step_heavy hD hT hin hG0 hcalls hR h1 hk h2 hdi fun ac' w' hR' => draw_any hQ fuel (i + 1) _ ac' w' hR' hcount
end

theorem drawOk {E : Env} (hm : E.P.follows .mixedOrders = true) (hcalls : ∀ f, FnOk E.P E.G f (E.call f)) : DrawOk E := by
  intro W ρ0 H0 F0 w0 hG0 id ops dsts as l ps hc s x s' he ac w Q hI hQ
  obtain ⟨tr, M, ks, hD, rfl, rfl, rfl, rfl⟩ := cDraw_ok hc
  have he' : ((evalOps E ((List.range ops.size).filterMap (pick0 ks)) s).bind fun s => (evalOps E ((List.range ops.size).filterMap (pickN ks)) s).bind fun s =>
      Bool.rec (motive := fun _ => DT (XExit × St)) .fail (Bool.rec (motive := fun _ => DT (XExit × St)) .fail (.ret (.normal, s)) (slotsIn s.a ((List.range ops.size).filterMap (pick0 ks)))) (pairsOk E s.a (pairsOf ops.size M ks))).run = some (x, s') := he
  obtain ⟨s1, h1, h2⟩ := DT.run_bind_some he'
  obtain ⟨s2, h3, h4⟩ := DT.run_bind_some h2
  obtain ⟨U, u0, u1, u2⟩ := evalOps_traj _ _ _ _ h1
  obtain ⟨T, t0, t1, t2⟩ := evalOps_traj _ _ _ _ h3
  have hT : Traj E ops ks s U T := ⟨u0, u2, t0.trans u1.symm, t2⟩
  cases hp : pairsOk E s2.a (pairsOf ops.size M ks) with
  | false => rw [hp] at h4; cases h4
  | true =>
  rw [hp] at h4
  simp only at h4
  cases hs : slotsIn s2.a ((List.range ops.size).filterMap (pick0 ks)) with
  | false => rw [hs] at h4; cases h4
  | true =>
  rw [hs] at h4
  have h4' : some (XExit.normal, s2) = some (x, s') := h4
  injection h4' with h4'; injection h4' with e1 e2; subst e1 e2
  rw [← t1] at hp hs hQ
  have hin : ∀ j, j < ops.size → kdAt tr E.P ops j = 0 → ∀ d, dsAt ops j = some d → d < s.a.length := fun j hj hk d hd => by
    rw [← (a_len hD hT ops.size (Nat.le_refl _)).2]
    refine slotsIn_at hs (piAt tr E.P ops M j) ?_ d hd
    rw [List.mem_filterMap]
    exact ⟨j, List.mem_range.2 hj, (pick_0 hD hj hk).1⟩
  have hlen : H0.length ≤ s.H.length := by
    obtain ⟨_, ρ, F, hA, _⟩ := hI
    rcases Nat.lt_or_ge s.H.length H0.length with h | h
    · obtain ⟨b', hb', _⟩ := hA.heap s.H.length _ (List.getElem?_eq_getElem h)
      have := (List.getElem?_eq_some_iff.1 hb').1
      omega
    · exact h
  refine wp_region_any hm (draw_any hD hT hin hlen hp hG0 hcalls hQ ops.size 0 _ ac _ (draw_start hD hT hlen hI) ?_)
  unfold openCount
  simp
end Go.Ev
