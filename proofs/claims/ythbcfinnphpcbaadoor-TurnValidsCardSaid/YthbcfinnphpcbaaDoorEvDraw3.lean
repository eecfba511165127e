/- A region in whatever order: the run in the text's order (own work). -/
import Derived.Test.YthbcfinnphpcbaaDoorEvDraw2
namespace Go.Ev
open Go

/-- the run of a region's operations: first the new zeros, then the rest -/
structure Traj (E : Env) (ops : Array Oper) (ks : List (Nat × PI)) (s : St) (U T : Nat → St) : Prop where
  u0 : U 0 = s
  u : ∀ j, j < ops.size → StepAt E (pick0 ks) U j
  t0 : T 0 = U ops.size
  t : ∀ j, j < ops.size → StepAt E (pickN ks) T j

def zeroBlk (z : List AVal) : ABlk := { et := 0, es := z.length, elems := [z], own := true, dead := false, g := 0 }
theorem putA_len (a : List AVal) (dst : Option Nat) (x : AVal) : (putA a dst x).length = a.length := by
  rw [putA_eq]
  cases dst <;> simp
theorem putA_off {a : List AVal} {dst : Option Nat} {x : AVal} {t : Nat} (h : dst ≠ some t) : (putA a dst x)[t]? = a[t]? := by
  rw [putA_eq]
  cases dst with
  | none => rfl
  | some d => simp only; rw [List.getElem?_set_ne (fun e => h (by rw [e]))]
theorem putA_on {a : List AVal} {d : Nat} {x : AVal} (h : d < a.length) : (putA a (some d) x)[d]? = some x := by
  rw [putA_eq]
  exact List.getElem?_set_self h

section
variable {tr : Bool} {E : Env} {ops : Array Oper} {M : List Nat} {ks : List (Nat × PI)} {s : St} {U T : Nat → St}
variable (hD : DC tr E.P ops M ks) (hT : Traj E ops ks s U T)
include hD

theorem before_lt {i j : Nat} (hj : j < ops.size) (hi : i < ops.size) (hb : isBefore M i j = true) : i < j := by
  refine rows_before hD.rows (· < j) (fun m o ho hm i hi => ?_) j _ (opAt_eq hj) (fun i hi => rows_lt hD.rows (opAt_eq hj) hi) i hi hb
  have := rows_lt hD.rows ho hi
  omega
theorem pick_0 {j : Nat} (hj : j < ops.size) (h : kdAt tr E.P ops j = 0) : pick0 ks j = some (piAt tr E.P ops M j) ∧ pickN ks j = none := by
  unfold pick0 pickN
  rw [hD.at' j hj, h]
  exact ⟨rfl, rfl⟩
theorem pick_n {j : Nat} (hj : j < ops.size) (h : kdAt tr E.P ops j ≠ 0) : pick0 ks j = none ∧ pickN ks j = some (piAt tr E.P ops M j) := by
  unfold pick0 pickN
  rw [hD.at' j hj]
  rcases kd_cases (tr := tr) (P := E.P) (ops := ops) j with h' | h' | h'
  · exact absurd h' h
  · rw [h']; exact ⟨rfl, rfl⟩
  · rw [h']; exact ⟨rfl, rfl⟩

include hT
theorem u_rest {j : Nat} (hj : j < ops.size) (h : kdAt tr E.P ops j ≠ 0) : U (j + 1) = U j := by
  have := hT.u j hj
  unfold StepAt at this
  rw [(pick_n hD hj h).1] at this
  exact this
theorem t_alloc {j : Nat} (hj : j < ops.size) (h : kdAt tr E.P ops j = 0) : T (j + 1) = T j := by
  have := hT.t j hj
  unfold StepAt at this
  rw [(pick_0 hD hj h).2] at this
  exact this
theorem u_alloc {j : Nat} (hj : j < ops.size) (h : kdAt tr E.P ops j = 0) : ∃ t z d, (opAt ops j).op = .alloc t ∧ (opAt ops j).guard = none ∧ zeT E.P t = some z ∧ dsAt ops j = some d ∧
    U (j + 1) = ⟨putA (U j).a (some d) (.ptr (U j).H.length 0 0 0), (U j).H ++ [zeroBlk z]⟩ := by
  have hst := hT.u j hj
  unfold StepAt at hst
  rw [(pick_0 hD hj h).1] at hst
  obtain ⟨d, hd⟩ := hD.allocDst hj h
  have ha := kd_alloc h
  unfold isAlloc at ha
  cases hop : (opAt ops j).op with
  | alloc t =>
    simp only [hop] at ha
    have hg : (opAt ops j).guard = none := by simpa using ha
    have hgd : gdAt ops j = none := by simp [gdAt, cGuard, hg]
    cases hz : zeT E.P t with
    | none =>
      exfalso
      have hbad : poAt tr E.P ops j = .bad := by simp [poAt, toTree, cOp, hop, hz]
      obtain ⟨b, h1, h2, h3⟩ := evalPI_cases hst
      have hb : b = true := by
        have : gOut E (U j).a (gdAt ops j) = some b := h1
        rw [hgd] at this
        injection this with this
        exact this.symm
      obtain ⟨x, H', h4, _⟩ := doOp_run (h2 hb)
      have h4' : (evalOp E (U j).a (deaden (U j).H (hidden (U j).a (piAt tr E.P ops M j).hide)) (poAt tr E.P ops j)).run = some (x, H') := h4
      rw [hbad] at h4'
      cases h4'
    | some z =>
      refine ⟨t, z, d, rfl, hg, hz, hd, ?_⟩
      have hpo : poAt tr E.P ops j = .alloc z := by simp [poAt, toTree, cOp, hop, hz]
      have hhide : (piAt tr E.P ops M j).hide = [] := by simp [piAt, h]
      obtain ⟨b, h1, h2, h3⟩ := evalPI_cases hst
      have hb : b = true := by
        have : gOut E (U j).a (gdAt ops j) = some b := h1
        rw [hgd] at this
        injection this with this
        exact this.symm
      obtain ⟨x, H', h4, h5⟩ := doOp_run (h2 hb)
      rw [hhide] at h4 h5
      have h4' : (evalOp E (U j).a (U j).H (poAt tr E.P ops j)).run = some (x, H') := h4
      rw [hpo] at h4'
      simp only [evalOp, DT.run_ret, len_eq, newBlk, app_eq] at h4'
      injection h4' with h4'
      injection h4' with e1 e2
      subst e1 e2
      rw [h5]
      show (⟨putA (U j).a (dsAt ops j) _, _⟩ : St) = _
      rw [hd]
      rfl
  | _ => simp [hop] at ha

theorem t_step {j : Nat} (hj : j < ops.size) (h : kdAt tr E.P ops j ≠ 0) : ∃ b, gOut E (T j).a (gdAt ops j) = some b ∧
    (b = true → ∃ x H', (evalOp E (T j).a (deaden (T j).H (hidden (T j).a (piAt tr E.P ops M j).hide)) (poAt tr E.P ops j)).run = some (x, H') ∧
      T (j + 1) = ⟨putA (T j).a (dsAt ops j) x, revive (T j).H H' (hidden (T j).a (piAt tr E.P ops M j).hide)⟩) ∧
    (b = false → T (j + 1) = ⟨putA (T j).a (dsAt ops j) (.v (.tuple #[])), (T j).H⟩) := by
  have hst := hT.t j hj
  unfold StepAt at hst
  rw [(pick_n hD hj h).2] at hst
  obtain ⟨b, h1, h2, h3⟩ := evalPI_cases hst
  exact ⟨b, h1, fun hb => doOp_run (h2 hb), h3⟩

theorem u_slot {t : Nat} : ∀ (d u : Nat), u + d ≤ ops.size → (∀ j, u ≤ j → j < u + d → kdAt tr E.P ops j = 0 → dsAt ops j ≠ some t) → (U (u + d)).a[t]? = (U u).a[t]?
  | 0, u, _, _ => rfl
  | d + 1, u, hb, hn => by
    have ih := u_slot d u (by omega) fun j h1 h2 => hn j h1 (by omega)
    rw [← ih]
    show (U (u + d + 1)).a[t]? = _
    by_cases hk : kdAt tr E.P ops (u + d) = 0
    · obtain ⟨_, z, d', _, _, _, hd', hU⟩ := u_alloc hD hT (j := u + d) (by omega) hk
      rw [hU]
      exact putA_off (hd' ▸ hn (u + d) (by omega) (by omega) hk)
    · rw [u_rest hD hT (by omega) hk]
theorem t_slot {t : Nat} : ∀ (d u : Nat), u + d ≤ ops.size → (∀ j, u ≤ j → j < u + d → kdAt tr E.P ops j ≠ 0 → dsAt ops j ≠ some t) → (T (u + d)).a[t]? = (T u).a[t]?
  | 0, u, _, _ => rfl
  | d + 1, u, hb, hn => by
    have ih := t_slot d u (by omega) fun j h1 h2 => hn j h1 (by omega)
    rw [← ih]
    show (T (u + d + 1)).a[t]? = _
    by_cases hk : kdAt tr E.P ops (u + d) = 0
    · rw [t_alloc hD hT (by omega) hk]
    · obtain ⟨b, h1, h2, h3⟩ := t_step hD hT (j := u + d) (by omega) hk
      have hne := hn (u + d) (by omega) (by omega) hk
      cases b with
      | true =>
        obtain ⟨x, H', _, h5⟩ := h2 rfl
        rw [h5]; exact putA_off hne
      | false => rw [h3 rfl]; exact putA_off hne
theorem a_len : ∀ j, j ≤ ops.size → (U j).a.length = s.a.length ∧ (T j).a.length = s.a.length := by
  have hu : ∀ j, j ≤ ops.size → (U j).a.length = s.a.length := by
    intro j
    induction j with
    | zero => intro _; rw [hT.u0]
    | succ j ih =>
      intro hj
      by_cases hk : kdAt tr E.P ops j = 0
      · obtain ⟨_, z, d', _, _, _, hd', hU⟩ := u_alloc hD hT (j := j) (by omega) hk
        rw [hU]
        simp only [putA_len]
        exact ih (by omega)
      · rw [u_rest hD hT (by omega) hk]; exact ih (by omega)
  intro j
  induction j with
  | zero => intro _; exact ⟨hu 0 (by omega), by rw [hT.t0]; exact hu _ (Nat.le_refl _)⟩
  | succ j ih =>
    intro hj
    refine ⟨hu _ hj, ?_⟩
    by_cases hk : kdAt tr E.P ops j = 0
    · rw [t_alloc hD hT (by omega) hk]; exact (ih (by omega)).2
    · obtain ⟨b, h1, h2, h3⟩ := t_step hD hT (j := j) (by omega) hk
      cases b with
      | true =>
        obtain ⟨x, H', _, h5⟩ := h2 rfl
        rw [h5]; simp only [putA_len]; exact (ih (by omega)).2
      | false => rw [h3 rfl]; simp only [putA_len]; exact (ih (by omega)).2

/-- what a strict operation reads, it reads at the end too -/
theorem a_read {j : Nat} (hj : j < ops.size) (hl : isLoose (poAt tr E.P ops j) = false) : Agr (T j).a (T ops.size).a (gSlots (gdAt ops j) ++ poSlots (poAt tr E.P ops j)) := fun t ht => by
  have := t_slot hD hT (t := t) (ops.size - j) j (by omega) fun i h1 h2 hk he => by
    have hi : i < ops.size := by omega
    rcases (hD.slots hi hj he).1 ht with hb | hb
    · have := before_lt hD hj hi hb
      omega
    · rw [hl] at hb; cases hb.1
  rw [show j + (ops.size - j) = ops.size by omega] at this
  exact this.symm
theorem a_dst {j d : Nat} (hj : j < ops.size) (hd : dsAt ops j = some d) : (T ops.size).a[d]? = (T (j + 1)).a[d]? := by
  have := t_slot hD hT (t := d) (ops.size - (j + 1)) (j + 1) (by omega) fun i h1 h2 hk he => by
    have hi : i < ops.size := by omega
    rcases (hD.slots hi hj he).2 with h | h
    · omega
    · exact h hd
  rw [show j + 1 + (ops.size - (j + 1)) = ops.size by omega] at this
  exact this
theorem a_alloc {j d v : Nat} (hj : j < ops.size) (h : kdAt tr E.P ops j = 0) (hd : dsAt ops j = some d) (hlt : d < s.a.length) (hv : v ≤ ops.size) : (T v).a[d]? = some (.ptr (U j).H.length 0 0 0) := by
  have hne : ∀ i, i < ops.size → i ≠ j → dsAt ops i ≠ some d := fun i hi hij he => by
    rcases (hD.slots hi hj he).2 with h | h
    · exact hij h
    · exact h hd
  have h1 := t_slot hD hT (t := d) v 0 (by omega) fun i _ h2 hk => hne i (by omega) fun e => hk (e ▸ h)
  rw [Nat.zero_add] at h1
  rw [h1, hT.t0]
  have h2 := u_slot hD hT (t := d) (ops.size - (j + 1)) (j + 1) (by omega) fun i h3 h4 _ => hne i (by omega) (by omega)
  rw [show j + 1 + (ops.size - (j + 1)) = ops.size by omega] at h2
  rw [h2]
  obtain ⟨_, z, d', _, _, _, hd', hU⟩ := u_alloc hD hT hj h
  have : d' = d := Option.some.inj (hd'.symm.trans hd)
  subst this
  rw [hU]
  exact putA_on (by rw [(a_len hD hT j (by omega)).1]; exact hlt)

/-! ### the heap of new zeros -/
theorem u_heap : ∀ (d u : Nat), u + d ≤ ops.size → ∃ l, (U (u + d)).H = (U u).H ++ l
  | 0, u, _ => ⟨[], by simp⟩
  | d + 1, u, hb => by
    obtain ⟨l, hl⟩ := u_heap d u (by omega)
    show ∃ l, (U (u + d + 1)).H = _
    by_cases hk : kdAt tr E.P ops (u + d) = 0
    · obtain ⟨_, z, d', _, _, _, hd', hU⟩ := u_alloc hD hT (j := u + d) (by omega) hk
      exact ⟨l ++ [zeroBlk z], by rw [hU, hl, List.append_assoc]⟩
    · exact ⟨l, by rw [u_rest hD hT (by omega) hk, hl]⟩
theorem u_lt {i j : Nat} (hij : i < j) (hj : j ≤ ops.size) (hk : kdAt tr E.P ops i = 0) : (U i).H.length < (U j).H.length := by
  obtain ⟨_, z, d', _, _, _, hd', hU⟩ := u_alloc hD hT (j := i) (by omega) hk
  obtain ⟨l, hl⟩ := u_heap hD hT (j - (i + 1)) (i + 1) (by omega)
  rw [show i + 1 + (j - (i + 1)) = j by omega] at hl
  rw [hl, hU]
  simp
theorem u_base {j : Nat} (hj : j ≤ ops.size) : s.H.length ≤ (U j).H.length ∧ ∀ i, i < s.H.length → (U j).H[i]? = s.H[i]? := by
  obtain ⟨l, hl⟩ := u_heap hD hT j 0 (by omega)
  rw [Nat.zero_add, hT.u0] at hl
  rw [hl]
  exact ⟨by simp, fun i hi => List.getElem?_append_left hi⟩
theorem u_zero {j : Nat} (hj : j < ops.size) (hk : kdAt tr E.P ops j = 0) : ∃ t z, (opAt ops j).op = .alloc t ∧ zeT E.P t = some z ∧ (T 0).H[(U j).H.length]? = some (zeroBlk z) := by
  obtain ⟨t, z, d', h1, _, h2, hd', hU⟩ := u_alloc hD hT hj hk
  refine ⟨t, z, h1, h2, ?_⟩
  obtain ⟨l, hl⟩ := u_heap hD hT (ops.size - (j + 1)) (j + 1) (by omega)
  rw [show j + 1 + (ops.size - (j + 1)) = ops.size by omega, hU] at hl
  rw [hT.t0, hl]
  simp
theorem u_all : ∀ (v : Nat), v ≤ ops.size → ∀ id, s.H.length ≤ id → id < (U v).H.length → ∃ j, j < v ∧ kdAt tr E.P ops j = 0 ∧ id = (U j).H.length
  | 0, _, id, h1, h2 => by rw [hT.u0] at h2; omega
  | v + 1, hv, id, h1, h2 => by
    by_cases hk : kdAt tr E.P ops v = 0
    · obtain ⟨_, z, d', _, _, _, hd', hU⟩ := u_alloc hD hT (j := v) (by omega) hk
      rw [hU] at h2
      simp at h2
      by_cases he : id < (U v).H.length
      · obtain ⟨j, h3, h4, h5⟩ := u_all v (by omega) id h1 he
        exact ⟨j, by omega, h4, h5⟩
      · exact ⟨v, by omega, hk, by omega⟩
    · rw [u_rest hD hT (by omega) hk] at h2
      obtain ⟨j, h3, h4, h5⟩ := u_all v (by omega) id h1 h2
      exact ⟨j, by omega, h4, h5⟩
end
end Go.Ev
