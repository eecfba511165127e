/- A region in whatever order: one operation comes up (own work). -/
import Derived.Test.YthbcfinnphpcbaaDoorEvDraw4
namespace Go.Ev
open Go

section
variable {W : Nat → Prop} {ρ ρ' : Rho} {H H' : List ABlk} {F F' : Fz} {w w' : World}
/-- from one heap to another, block by living block -/
def Carry (ρ : Rho) (H : List ABlk) (ρ' : Rho) (H' : List ABlk) : Prop := ∀ (id : Nat) b, H[id]? = some b → b.dead = false → ∃ b', H'[id]? = some b' ∧ b'.dead = false ∧ b.g ≤ b'.g ∧ (b'.g = b.g → ρ' id = ρ id ∧ b'.es = b.es ∧ b.elems.length ≤ b'.elems.length)
section
variable (hk : Carry ρ H ρ' H') (hm : ∀ b o, F b o → F' b o) (hc : ∀ b o, F b o → w'.cell? ⟨b, o, none⟩ = w.cell? ⟨b, o, none⟩)
include hk hm hc
theorem CRel.carry {x : AVal} {x' : Value} (h : CRel ρ H F w x x') : CRel ρ' H' F' w' x x' := by
  cases h with
  | mem h => exact .mem (h.adv hm hc)
  | v => exact .v _
  | ptr id i c g a b hb hd hg h =>
    obtain ⟨b', hb', hd', hg', e⟩ := hk id b hb hd
    refine .ptr id i c g a b' hb' hd' (Nat.le_trans hg hg') fun hge => ?_
    have hbg : b'.g = b.g := by omega
    obtain ⟨e1, e2, e3⟩ := e hbg
    rw [e1, e2]
    exact h (by omega)
  | sl id off n g a cap b hb hd hg hn hs hm h =>
    obtain ⟨b', hb', hd', hg', e⟩ := hk id b hb hd
    refine .sl id off n g a cap b' hb' hd' (Nat.le_trans hg hg') hn hs hm fun hge => ?_
    have hbg : b'.g = b.g := by omega
    obtain ⟨e1, e2, e3⟩ := e hbg
    obtain ⟨h1, h2, h3⟩ := h (by omega)
    rw [e1, e2]
    exact ⟨h1, h2, Nat.le_trans h3 e3⟩
  | tptr cs a vs hs hF hw hr => exact .tptr cs a vs hs (fun c hlt => hm _ _ (hF c hlt)) (fun c hlt => (hc _ _ (hF c hlt)).trans (hw c hlt)) (fun c hlt => (hr c hlt).adv hm hc)
  | unk x' => exact .unk x'
theorem VRel.carry {x : AVal} {x' : Value} (h : VRel ρ H F w x x') : VRel ρ' H' F' w' x x' := by
  cases h with
  | cell h => exact .cell (h.carry hk hm hc)
  | agg cs vs hl h => exact .agg cs vs hl fun i x x' hx hx' => (h i x x' hx hx').carry hk hm hc
  | fn f caps vs hl h => exact .fn f caps vs hl fun i x x' hx hx' => (h i x x' hx hx').carry hk hm hc
theorem WRel.carry {x : AVal} {x' : Value} (h : WRel ρ H F w x x') : WRel ρ' H' F' w' x x' := by
  cases h with
  | val h => exact .val (h.carry hk hm hc)
  | tup xs vs hl h => exact .tup xs vs hl fun i x x' hx hx' => (h i x x' hx hx').carry hk hm hc
theorem ARel.carry {a : List AVal} {vs : Array Value} (h : ARel ρ H F w a vs) : ARel ρ' H' F' w' a vs :=
  ⟨h.1, fun i x x' hx hx' => (h.2 i x x' hx hx').carry hk hm hc⟩
end
end

section
variable {W : Nat → Prop} {ρ0 : Rho} {H0 : List ABlk} {F0 : Fz} {w0 w : World}
variable {tr : Bool} {E : Env} {ops : Array Oper} {M : List Nat} {ks : List (Nat × PI)} {s : St} {U T : Nat → St}

/-- who has come up -/
def exOf (listed : Array Bool) (j : Nat) : Prop := listed.getD j true = true
/-- the new zeros that have not come up -/
def deadIds (tr : Bool) (P : Program) (ops : Array Oper) (U : Nat → St) (listed : Array Bool) (id : Nat) : Prop := ∃ b, b < ops.size ∧ kdAt tr P ops b = 0 ∧ ¬ exOf listed b ∧ id = (U b).H.length
/-- the slots whose writers have not come up -/
def openSlots (ops : Array Oper) (listed : Array Bool) (t : Nat) : Prop := ∃ i, i < ops.size ∧ dsAt ops i = some t ∧ ¬ exOf listed i

theorem ex_set {listed : Array Bool} {i j : Nat} (hi : i < listed.size) : exOf (listed.setIfInBounds i true) j ↔ exOf listed j ∨ j = i := by
  unfold exOf
  by_cases e : i = j
  · subst e; simp [Array.getD, hi]
  · have : j ≠ i := fun h => e h.symm
    simp only [Array.getD_eq_getD_getElem?, Array.getElem?_setIfInBounds_ne e, this, or_false]

structure RInv (W : Nat → Prop) (ρ0 : Rho) (H0 : List ABlk) (F0 : Fz) (w0 : World) (tr : Bool) (E : Env) (ops : Array Oper) (a0 : List AVal) (U T : Nat → St) (m : Nat) (listed : Array Bool) (ac : Act) (w : World) : Prop where
  size : listed.size = ops.size
  closed : ∀ j, j < ops.size → exOf listed j → ∀ i ∈ direct (opAt ops j), exOf listed i
  hm : m ≤ ops.size
  heavy : ∀ j, j < ops.size → kdAt tr E.P ops j = 2 → (exOf listed j ↔ j < m)
  inv : Inv W ρ0 H0 F0 w0 ⟨maskP (T ops.size).a a0 (openSlots ops listed), killP (T m).H (deadIds tr E.P ops U listed)⟩ ac w

theorem mem_ready' {listed : Array Bool} {i : Nat} (h : i ∈ Region.ready .any ops listed) : i < ops.size ∧ ¬ exOf listed i ∧ (listed.size = ops.size → ∀ e ∈ direct (opAt ops i), e < ops.size → exOf listed e) := by
  unfold Region.ready at h
  rw [List.mem_filter] at h
  obtain ⟨h1, h2⟩ := h
  have hi := List.mem_range.1 h1
  rw [opAt_eq hi] at h2
  simp only [Option.map_some, Option.getD_some, Bool.and_eq_true, Bool.not_eq_true'] at h2
  refine ⟨hi, fun h => ?_, fun hsz e he hlt => ?_⟩
  · unfold exOf at h; rw [h] at h2; cases h2.1
  · obtain ⟨ed, h3, h4, h5⟩ := mem_direct.1 he
    have h6 : (opAt ops i).after.all (fun e => !Region.binds .any e || listed.getD e.on false) = true := h2.2
    rw [Array.all_eq_true_iff_forall_mem] at h6
    have h7 := h6 ed h3
    rw [h4, h5] at h7
    simp only [Bool.not_true, Bool.false_or] at h7
    unfold exOf
    have : e < listed.size := by omega
    simp only [Array.getD, this, dite_true] at h7 ⊢
    exact h7

variable (hD : DC tr E.P ops M ks) (hT : Traj E ops ks s U T) (hin : ∀ j, j < ops.size → kdAt tr E.P ops j = 0 → ∀ d, dsAt ops j = some d → d < s.a.length)
include hD

theorem before_ex {m : Nat} {listed : Array Bool} {ac : Act} (hR : RInv W ρ0 H0 F0 w0 tr E ops s.a U T m listed ac w) {j : Nat} (hj : j < ops.size) (hd : ∀ i ∈ direct (opAt ops j), exOf listed i) {i : Nat} (hi : i < ops.size) (hb : isBefore M i j = true) : exOf listed i :=
  rows_before hD.rows (exOf listed) (fun j' o ho hx i hi => by
    have hj' := (Array.getElem?_eq_some_iff.1 ho).1
    have : o = opAt ops j' := Option.some.inj (ho.symm.trans (opAt_eq hj'))
    subst this
    exact hR.closed j' hj' hx i hi) j _ (opAt_eq hj) hd i hi hb

theorem mask_step {listed : Array Bool} (hsz : listed.size = ops.size) {i : Nat} (hi : i < ops.size) {x : AVal} (hx : ∀ d, dsAt ops i = some d → d < (T ops.size).a.length → (T ops.size).a[d]? = some x) :
    maskP (T ops.size).a s.a (openSlots ops (listed.setIfInBounds i true)) = putA (maskP (T ops.size).a s.a (openSlots ops listed)) (dsAt ops i) x := by
  refine List.ext_getElem? fun t => ?_
  have hopen : ∀ t, dsAt ops i ≠ some t → (openSlots ops (listed.setIfInBounds i true) t ↔ openSlots ops listed t) := fun t hne => by
    constructor
    · rintro ⟨j, h1, h2, h3⟩
      exact ⟨j, h1, h2, fun h => h3 ((ex_set (hsz ▸ hi)).2 (.inl h))⟩
    · rintro ⟨j, h1, h2, h3⟩
      refine ⟨j, h1, h2, fun h => ?_⟩
      rcases (ex_set (hsz ▸ hi)).1 h with h | h
      · exact h3 h
      · subst h; exact hne h2
  by_cases hd : dsAt ops i = some t
  · have hno : ¬ openSlots ops (listed.setIfInBounds i true) t := by
      rintro ⟨j, h1, h2, h3⟩
      rcases (hD.slots hi h1 hd).2 with h | h
      · exact h3 ((ex_set (hsz ▸ hi)).2 (.inr h.symm))
      · exact h h2
    rw [maskP_off hno, hd]
    rcases Nat.lt_or_ge t (T ops.size).a.length with hlt | hge
    · rw [putA_on (by rw [maskP_len]; exact hlt)]
      exact hx t hd hlt
    · rw [List.getElem?_eq_none hge, List.getElem?_eq_none (by rw [putA_len, maskP_len]; exact hge)]
  · rw [putA_off hd]
    by_cases ho : openSlots ops listed t
    · rcases Nat.lt_or_ge t (T ops.size).a.length with hlt | hge
      · rw [maskP_on ho hlt, maskP_on ((hopen t hd).2 ho) hlt]
      · rw [List.getElem?_eq_none (by rw [maskP_len]; exact hge), List.getElem?_eq_none (by rw [maskP_len]; exact hge)]
    · rw [maskP_off ho, maskP_off fun h => ho ((hopen t hd).1 h)]

include hT
/-- what an operation reads, when it comes up -/
theorem mask_read {m : Nat} {listed : Array Bool} {ac : Act} (hR : RInv W ρ0 H0 F0 w0 tr E ops s.a U T m listed ac w) {j : Nat} (hj : j < ops.size) (hnx : ¬ exOf listed j) (hd : ∀ i ∈ direct (opAt ops j), exOf listed i) :
    Agr (T j).a (maskP (T ops.size).a s.a (openSlots ops listed)) (gSlots (gdAt ops j) ++ poSlots (poAt tr E.P ops j)) := fun t ht => by
  have huniq : ∀ {i i' : Nat}, i < ops.size → i' < ops.size → dsAt ops i = some t → dsAt ops i' = some t → i = i' := fun {i i'} h1 h2 e1 e2 => ((hD.slots h1 h2 e1).2).resolve_right fun h => h e2
  have hend : (∀ i, j ≤ i → i < ops.size → dsAt ops i ≠ some t) → (T j).a[t]? = (T ops.size).a[t]? := fun h => by
    have := t_slot hD hT (t := t) (ops.size - j) j (by omega) fun i h1 h2 _ => h i h1 (by omega)
    rw [show j + (ops.size - j) = ops.size by omega] at this
    exact this.symm
  by_cases hw : ∃ i, i < ops.size ∧ dsAt ops i = some t
  · obtain ⟨i, hi, hdi⟩ := hw
    rcases (hD.slots hi hj hdi).1 ht with hb | ⟨_, hna, hb⟩
    · have hxi := before_ex hD hR hj hd hi hb
      rw [maskP_off]
      · refine hend fun k h1 h2 he => ?_
        have := huniq hi h2 hdi he
        have := before_lt hD hj hi hb
        omega
      · rintro ⟨k, h1, h2, h3⟩
        have := huniq hi h1 hdi h2
        subst this
        exact h3 hxi
    · have hxi : ¬ exOf listed i := fun hx => by
        rcases hb with hb | hb
        · exact hnx (before_ex hD hR hi (hR.closed i hi hx) hj hb)
        · subst hb; exact hnx hx
      have hji : j ≤ i := by
        rcases hb with hb | hb
        · have := before_lt hD hi hj hb; omega
        · omega
      have h1 := t_slot hD hT (t := t) j 0 (by omega) fun k _ h2 _ he => by
        have := huniq hi (by omega) hdi he
        omega
      have h2 := u_slot hD hT (t := t) ops.size 0 (by omega) fun k _ h2 hk he => by
        have := huniq hi (by omega) hdi he
        subst this
        have := kd_alloc hk
        rw [hna] at this
        cases this
      rw [Nat.zero_add] at h1 h2
      rw [h1, hT.t0, h2, hT.u0]
      rcases Nat.lt_or_ge t (T ops.size).a.length with hlt | hge
      · rw [maskP_on ⟨i, hi, hdi, hxi⟩ hlt]
        rw [(a_len hD hT ops.size (Nat.le_refl _)).2] at hlt
        rw [List.getElem?_eq_getElem hlt]
        rfl
      · rw [List.getElem?_eq_none (by rw [← (a_len hD hT ops.size (Nat.le_refl _)).2]; exact hge), List.getElem?_eq_none (by rw [maskP_len]; exact hge)]
  · rw [maskP_off]
    · exact hend fun k _ h2 he => hw ⟨k, h2, he⟩
    · rintro ⟨k, h1, h2, _⟩
      exact hw ⟨k, h1, h2⟩
end
end Go.Ev
