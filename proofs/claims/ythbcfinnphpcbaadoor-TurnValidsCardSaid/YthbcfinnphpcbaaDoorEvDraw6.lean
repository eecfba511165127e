/- A region in whatever order: whichever operation comes up (own work). -/
import Derived.Test.YthbcfinnphpcbaaDoorEvDraw5
namespace Go.Ev
open Go

section
variable {W : Nat → Prop} {ρ0 : Rho} {H0 : List ABlk} {F0 : Fz} {w0 w : World}
variable {tr : Bool} {E : Env} {ops : Array Oper} {M : List Nat} {ks : List (Nat × PI)} {s : St} {U T : Nat → St}
variable (hD : DC tr E.P ops M ks) (hT : Traj E ops ks s U T) (hin : ∀ j, j < ops.size → kdAt tr E.P ops j = 0 → ∀ d, dsAt ops j = some d → d < s.a.length)
variable (hpairs : pairsOk E (T ops.size).a (pairsOf ops.size M ks) = true)
variable (hG0 : GOk E F0 w0) (hcalls : ∀ f, FnOk E.P E.G f (E.call f))

theorem dead_same {listed : Array Bool} (hsz : listed.size = ops.size) {i : Nat} (hi : i < ops.size) (hk : kdAt tr E.P ops i ≠ 0) : deadIds tr E.P ops U (listed.setIfInBounds i true) = deadIds tr E.P ops U listed := by
  funext id
  refine propext ⟨fun ⟨b, h1, h2, h3, h4⟩ => ⟨b, h1, h2, fun h => h3 ((ex_set (hsz ▸ hi)).2 (.inl h)), h4⟩, fun ⟨b, h1, h2, h3, h4⟩ => ⟨b, h1, h2, fun h => ?_, h4⟩⟩
  rcases (ex_set (hsz ▸ hi)).1 h with h | h
  · exact h3 h
  · subst h; exact hk h2

include hD
/-- behind an operation that put x into its slot -/
theorem RInv.next {m m' : Nat} {listed : Array Bool} {ac ac' : Act} {w' : World} (hR : RInv W ρ0 H0 F0 w0 tr E ops s.a U T m listed ac w) {i : Nat} (hi : i < ops.size) (hdi : ∀ j ∈ direct (opAt ops i), exOf listed j)
    (hm' : m' ≤ ops.size) (hheavy : ∀ j, j < ops.size → kdAt tr E.P ops j = 2 → (exOf (listed.setIfInBounds i true) j ↔ j < m'))
    {x : AVal} (hx : ∀ d, dsAt ops i = some d → d < (T ops.size).a.length → (T ops.size).a[d]? = some x)
    (hI : Inv W ρ0 H0 F0 w0 ⟨putA (maskP (T ops.size).a s.a (openSlots ops listed)) (dsAt ops i) x, killP (T m').H (deadIds tr E.P ops U (listed.setIfInBounds i true))⟩ ac' w') :
    RInv W ρ0 H0 F0 w0 tr E ops s.a U T m' (listed.setIfInBounds i true) ac' w' := by
  refine ⟨by simpa using hR.size, fun j hj hx k hk => ?_, hm', hheavy, by rw [mask_step hD hR.size hi hx]; exact hI⟩
  have his : i < listed.size := by rw [hR.size]; exact hi
  rcases (ex_set his).1 hx with h | h
  · exact (ex_set his).2 (.inl (hR.closed j hj h k hk))
  · subst h; exact (ex_set his).2 (.inl (hdi k hk))

include hG0 hcalls in
/-- an operation, from what the evaluator reckons -/
theorem step_gen {ac : Act} {i : Nat} {a : List AVal} {H H' : List ABlk} {b : Bool} {x : AVal} {Q : Exit → Act → World → Prop} {K : Act → World → Prop} (hi : i < ops.size)
    (hI : Inv W ρ0 H0 F0 w0 ⟨a, H⟩ ac w) (hg : gOut E a (gdAt ops i) = some b)
    (h1 : b = true → (evalOp E a H (poAt tr E.P ops i)).run = some (x, H')) (h2 : b = false → x = .v (.tuple #[]) ∧ H' = H)
    (hK : ∀ ac' w', Inv W ρ0 H0 F0 w0 ⟨putA a (dsAt ops i) x, H'⟩ ac' w' → K ac' w') : wpOp E.P ops Q i K ac w := by
  obtain ⟨hd, ρ, F, hAdv, hH, hA⟩ := hI
  have hw := wanted_gOut (hD.guard i hi) hA hg
  unfold wpOp
  simp only [opAt_eq hi, hw]
  cases b with
  | true =>
    rw [if_pos rfl]
    refine .inl (op_soundT tr hA hH (hG0.adv hAdv) hcalls (h1 rfl) K Q fun x' w' hp => ?_)
    obtain ⟨ρ', F', a1, a2, a3⟩ := hp
    exact hK _ _ ⟨(put_defers _ _).trans hd, ρ', F', hAdv.trans a1, a2, (hA.adv a1).putA _ a3⟩
  | false =>
    rw [if_neg (by simp)]
    obtain ⟨e1, e2⟩ := h2 rfl
    subst e1 e2
    exact hK _ _ ⟨(put_defers _ _).trans hd, ρ, F, hAdv, hH, hA.putA _ (.ofv _)⟩

include hT hin hpairs hG0 hcalls

theorem step_float {m : Nat} {listed : Array Bool} {ac : Act} (hR : RInv W ρ0 H0 F0 w0 tr E ops s.a U T m listed ac w) {i : Nat} (hi : i < ops.size) (hk : kdAt tr E.P ops i = 1) (hnx : ¬ exOf listed i) (hdi : ∀ j ∈ direct (opAt ops i), exOf listed j)
    {Q : Exit → Act → World → Prop} {K : Act → World → Prop} (hK : ∀ ac' w', RInv W ρ0 H0 F0 w0 tr E ops s.a U T m (listed.setIfInBounds i true) ac' w' → K ac' w') : wpOp E.P ops Q i K ac w := by
  obtain ⟨b, x, g1, g2, g3, g4⟩ := t_float hD hT hi hk
  have hread := mask_read hD hT hR hi hnx hdi
  have hne : kdAt tr E.P ops i ≠ 0 := by omega
  refine step_gen hD hG0 hcalls (H' := killP (T m).H (deadIds tr E.P ops U listed)) hi hR.inv ((gOut_slots hread.left).symm.trans g1) (fun hb => ?_) (fun hb => ⟨g4 hb, rfl⟩) fun ac' w' hI' => hK ac' w' ?_
  · have he := g3 hb
    rw [evalOp_slots _ hread.right] at he
    refine (evalOp_float (kd_float hk) he).2 _ fun id hid => ?_
    -- the block that is looked at stands in the heap at hand
    have hlive : ∃ b', (killP (T m).H (deadIds tr E.P ops U listed))[id]? = some b' ∧ b'.dead = false := by
      obtain ⟨hd0, ρ, F, hAdv, hH, hA⟩ := hR.inv
      have harg : ∀ (y : Arg), argBare y = true → id ∈ idsOf (evalA E (maskP (T ops.size).a s.a (openSlots ops listed)) y) → ∃ b', (killP (T m).H (deadIds tr E.P ops U listed))[id]? = some b' ∧ b'.dead = false := fun y hy hm => by
        cases y with
        | c z =>
          exfalso
          have hm' : id ∈ idsOf z := hm
          cases z <;> first | (cases hm'; done) | (cases hy; done)
        | g n =>
          exfalso
          have hm' : id ∈ idsOf (.tptr (mapL .v (E.G n))) := hm
          cases hm'
        | t n =>
          rw [evalA_t] at hm
          cases hn : (maskP (T ops.size).a s.a (openSlots ops listed))[n]? with
          | none => rw [hn] at hm; cases hm
          | some u =>
          rw [hn] at hm
          simp only [Option.getD_some] at hm
          have hlt : n < ac.tmps.size := hA.1 ▸ (List.getElem?_eq_some_iff.1 hn).1
          have hW := hA.2 n u _ hn (Array.getElem?_eq_getElem hlt)
          cases u with
          | ptr id' i c g =>
            have : id = id' := by simpa [idsOf] using hm
            subst this
            obtain ⟨_, b', _, h1, h2, _⟩ := inv_ptr hW
            exact ⟨b', h1, h2⟩
          | sl id' off n g =>
            have : id = id' := by simpa [idsOf] using hm
            subst this
            obtain ⟨_, _, b', _, h1, h2, _⟩ := inv_sl hW
            exact ⟨b', h1, h2⟩
          | _ => cases hm
      have hbare := hD.bare hi
      revert hbare hid
      generalize poAt tr E.P ops i = q
      intro hid hbare
      cases q with
      | load ks n agg y => exact harg y hbare hid
      | idxS es y z => exact harg y hbare hid
      | slice es y lo hi => exact harg y hbare hid
      | _ => cases hid
    obtain ⟨b', hb1, hb2⟩ := hlive
    obtain ⟨hnD, hb3⟩ := killP_live hb1 hb2
    have huse : id ∈ usesOf E (T ops.size).a (poAt tr E.P ops i) := by
      rw [← uses_end hD hT hi, usesOf_slots hread.right]; exact hid
    -- nobody between touches it
    have hbetween : ∀ j, j < ops.size → kdAt tr E.P ops j = 2 → isBefore M i j = false → isBefore M j i = false → id ∉ touchOf E (T ops.size).a (poAt tr E.P ops j) := fun j hj hkj h1 h2 =>
      pairsOk_at hpairs (hD.pair hj hi hk hkj h2 h1) id huse
    have hlike : LikeAt (T i).H (T m).H id := by
      rcases Nat.lt_or_ge i m with him | him
      · have := t_like hD hT hin (id := id) (m - i) i (by have := hR.hm; omega) fun j h1 h2 hkj => by
          have hj : j < ops.size := by have := hR.hm; omega
          have hxj := (hR.heavy j hj hkj).2 (by omega)
          refine hbetween j hj hkj ?_ ?_
          · cases hc : isBefore M i j with
            | false => rfl
            | true => exact absurd (before_ex hD hR hj (hR.closed j hj hxj) hi hc) hnx
          · cases hc : isBefore M j i with
            | false => rfl
            | true => have := before_lt hD hi hj hc; omega
        rwa [show i + (m - i) = m by omega] at this
      · have := t_like hD hT hin (id := id) (i - m) m (by omega) fun j h1 h2 hkj => by
          have hj : j < ops.size := by omega
          have hxj : ¬ exOf listed j := fun h => by have := (hR.heavy j hj hkj).1 h; omega
          refine hbetween j hj hkj ?_ ?_
          · cases hc : isBefore M i j with
            | false => rfl
            | true => have := before_lt hD hj hi hc; omega
          · cases hc : isBefore M j i with
            | false => rfl
            | true => exact absurd (before_ex hD hR hi hdi hj hc) hxj
        rw [show m + (i - m) = i by omega] at this
        intro b0 hb0
        obtain ⟨b2, h3, h4⟩ := this b' hb3
        have : b2 = b0 := Option.some.inj (h3.symm.trans hb0)
        subst this
        exact ⟨b', hb3, h4.1.symm, h4.2.1.symm, h4.2.2.1.symm, h4.2.2.2.1.symm, h4.2.2.2.2.symm⟩
    refine hlike.trans fun b0 hb0 => ⟨b0, ?_, .refl b0⟩
    rw [killP_off hnD]; exact hb0
  · refine RInv.next hD hR hi hdi hR.hm (fun j hj hkj => ?_) (x := x) (fun d hd hlt => ?_) ?_
    · rw [ex_set (hR.size ▸ hi)]
      rw [← hR.heavy j hj hkj]
      exact ⟨fun h => h.resolve_right fun e => by subst e; omega, .inl⟩
    · rw [a_dst hD hT hi hd, g2, hd]
      refine putA_on ?_
      rw [(a_len hD hT i (by omega)).2, ← (a_len hD hT ops.size (Nat.le_refl _)).2]
      exact hlt
    · rw [dead_same hR.size hi hne]; exact hI'

omit hpairs in
theorem step_heavy {m : Nat} {listed : Array Bool} {ac : Act} (hR : RInv W ρ0 H0 F0 w0 tr E ops s.a U T m listed ac w) {i : Nat} (hi : i < ops.size) (hk : kdAt tr E.P ops i = 2) (hnx : ¬ exOf listed i) (hdi : ∀ j ∈ direct (opAt ops i), exOf listed j)
    {Q : Exit → Act → World → Prop} {K : Act → World → Prop} (hK : ∀ ac' w', RInv W ρ0 H0 F0 w0 tr E ops s.a U T (i + 1) (listed.setIfInBounds i true) ac' w' → K ac' w') : wpOp E.P ops Q i K ac w := by
  obtain ⟨b, x, g1, g2, g3, g4⟩ := t_heavy hD hT hin hi hk
  have hread := mask_read hD hT hR hi hnx hdi
  have hne : kdAt tr E.P ops i ≠ 0 := by omega
  have hmi : m ≤ i := by
    rcases Nat.lt_or_ge i m with h | h
    · exact absurd ((hR.heavy i hi hk).2 h) hnx
    · exact h
  have hno : ∀ j, m ≤ j → j < i → kdAt tr E.P ops j ≠ 2 := fun j h1 h2 hkj => by
    have hj : j < ops.size := by omega
    have := (hR.heavy j hj hkj).1 (before_ex hD hR hi hdi hj (hD.chain h2 hi hkj hk).1)
    omega
  have hsame : (T m).H = (T i).H := by
    have := t_same hD hT (i - m) m (by omega) fun j h1 h2 => hno j h1 (by omega)
    rw [show m + (i - m) = i by omega] at this
    exact this.symm
  have hfin : ∀ {H' : List ABlk} {ac' : Act} {w' : World}, H' = killP (T (i + 1)).H (deadIds tr E.P ops U listed) → Inv W ρ0 H0 F0 w0 ⟨putA (maskP (T ops.size).a s.a (openSlots ops listed)) (dsAt ops i) x, H'⟩ ac' w' → K ac' w' := fun {H' ac' w'} e hI' => by
    refine hK ac' w' (RInv.next hD hR hi hdi (by omega) (fun j hj hkj => ?_) (x := x) (fun d hd hlt => ?_) ?_)
    · rw [ex_set (hR.size ▸ hi)]
      constructor
      · rintro (h | h)
        · have := (hR.heavy j hj hkj).1 h; omega
        · omega
      · intro h
        by_cases e : j = i
        · exact .inr e
        · refine .inl ((hR.heavy j hj hkj).2 ?_)
          rcases Nat.lt_or_ge j m with h' | h'
          · exact h'
          · exact absurd hkj (hno j h' (by omega))
    · rw [a_dst hD hT hi hd, g2, hd]
      refine putA_on ?_
      rw [(a_len hD hT i (by omega)).2, ← (a_len hD hT ops.size (Nat.le_refl _)).2]
      exact hlt
    · rw [dead_same hR.size hi hne, ← e]; exact hI'
  cases b with
  | false =>
    obtain ⟨h1, h2⟩ := g4 rfl
    exact step_gen hD hG0 hcalls (x := x) (H' := killP (T m).H (deadIds tr E.P ops U listed)) hi hR.inv ((gOut_slots hread.left).symm.trans g1) (fun h => by cases h) (fun _ => ⟨h1, rfl⟩) fun ac' w' hI' => hfin (by rw [h2, hsame]) hI'
  | true =>
    obtain ⟨hid, H', h5, h6, h7⟩ := g3 rfl
    rw [evalOp_slots _ hread.right] at h6
    have hall : ∀ id ∈ hid, id < (T i).H.length := fun id hid' => by
      obtain ⟨b', k1, k2, k3, rfl⟩ := (h5 id).1 hid'
      exact t_hall hD hT hin hi hk k1 k2 k3
    have hsub : ∀ id, deadIds tr E.P ops U listed id → id ∈ hid := fun id ⟨b', k1, k2, k3, k4⟩ => by
      refine (h5 id).2 ⟨b', k1, k2, ?_, k4⟩
      cases hc : isBefore M b' i with
      | false => rfl
      | true => exact absurd (before_ex hD hR hi hdi k1 hc) k3
    have hMono : Mono (· ∈ hid) (killP (T i).H (· ∈ hid)) (killP (T i).H (deadIds tr E.P ops U listed)) (killP (T i).H (· ∈ hid)) (killP (T i).H (deadIds tr E.P ops U listed)) := by
      refine ⟨by rw [killP_len, killP_len], fun id hn => ?_, fun id b hm hb => ?_, fun _ _ => rfl, fun _ _ => rfl, fun id h => by rw [killP_len]; exact hall id h⟩
      · rw [killP_off (D := (· ∈ hid)) hn, killP_off fun h => hn (hsub id h)]
      · rw [killP_on (D := (· ∈ hid)) hm] at hb
        simp only [Option.map_eq_some_iff] at hb
        obtain ⟨c, _, rfl⟩ := hb
        rfl
    obtain ⟨H2', h8, h9⟩ := hMono.evalOp (kd_heavy hk) h6
    refine step_gen hD hG0 hcalls (x := x) (H' := H2') hi hR.inv ((gOut_slots hread.left).symm.trans g1) (fun _ => by rw [hsame]; exact h8) (fun h => by cases h) fun ac' w' hI' => hfin ?_ hI'
    refine List.ext_getElem? fun id => ?_
    rw [h7]
    by_cases hm : id ∈ hid
    · rw [h9.at2 id hm]
      have hr := revive_on (H0 := (T i).H) (H := H') hm (hall id hm) (h9.bound id hm)
      by_cases hd : deadIds tr E.P ops U listed id
      · rw [killP_on hd, killP_on hd, hr]
      · rw [killP_off hd, killP_off hd, hr]
    · rw [← h9.same id hm, killP_off fun h => hm (hsub id h), revive_off hm]
end
end Go.Ev
