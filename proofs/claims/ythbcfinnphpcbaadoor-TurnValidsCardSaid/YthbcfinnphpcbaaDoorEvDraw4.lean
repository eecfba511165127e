/- A region in whatever order: the heap along the text's run (own work). -/
import Derived.Test.YthbcfinnphpcbaaDoorEvDraw3
namespace Go.Ev
open Go

section
variable {E : Env} {a a' : List AVal}
theorem usesOf_slots {o : PO} (h : Agr a a' (poSlots o)) : usesOf E a o = usesOf E a' o := by
  cases o with
  | load ks n agg x => simp only [usesOf, Agr.arg (E := E) (x := x) h]
  | idxS es x i => simp only [usesOf, Agr.arg (E := E) h.left]
  | slice es x lo hi => simp only [usesOf, Agr.arg (E := E) h.left.left]
  | _ => rfl
theorem touchOf_slots {o : PO} (h : Agr a a' (poSlots o)) : touchOf E a o = touchOf E a' o := by
  cases o with
  | store n x y => simp only [touchOf, Agr.arg (E := E) h.left]
  | append et es by' x y => simp only [touchOf, Agr.arg (E := E) h.left]
  | copy es x y => simp only [touchOf, Agr.arg (E := E) h.left]
  | call f xs => simp only [touchOf, Agr.args (E := E) h]
  | calld x xs => simp only [touchOf, Agr.args (E := E) h.right, Agr.arg (E := E) h.left]
  | _ => rfl
theorem usesOf_loose {o : PO} (h : isLoose o = true) : usesOf E a o = [] := by cases o <;> first | rfl | cases h
theorem touchOf_loose {o : PO} (h : isLoose o = true) : touchOf E a o = [] := by cases o <;> first | rfl | cases h
theorem pairsOk_at : ∀ {l : List (PO × PO)}, pairsOk E a l = true → ∀ {p : PO × PO}, p ∈ l → ∀ id ∈ usesOf E a p.1, id ∉ touchOf E a p.2
  | [], _, p, hp => by cases hp
  | q :: l, h, p, hp => by
    have e : pairsOk E a (q :: l) = Bool.rec false (pairsOk E a l) (apartN (usesOf E a q.1) (touchOf E a q.2)) := rfl
    rw [e] at h
    cases hq : apartN (usesOf E a q.1) (touchOf E a q.2) with
    | false => rw [hq] at h; cases h
    | true =>
      rw [hq] at h
      rcases List.mem_cons.1 hp with rfl | hp
      · exact apartN_ok hq
      · exact pairsOk_at h hp
theorem slotsIn_at : ∀ {l : List PI}, slotsIn a l = true → ∀ p ∈ l, ∀ d, p.dst = some d → d < a.length
  | [], _, p, hp => by cases hp
  | q :: l, h, p, hp => fun d hd => by
    have e : slotsIn a (q :: l) = (match q.dst with
      | some d => match nth a d with
        | some _ => slotsIn a l
        | none => false
      | none => false) := rfl
    rw [e] at h
    cases hq : q.dst with
    | none => simp [hq] at h
    | some d' =>
    simp only [hq, nth_eq] at h
    cases hn : a[d']? with
    | none => simp [hn] at h
    | some x =>
    simp only [hn] at h
    rcases List.mem_cons.1 hp with rfl | hp
    · have : d' = d := Option.some.inj (hq.symm.trans hd)
      subst this
      exact (List.getElem?_eq_some_iff.1 hn).1
    · exact slotsIn_at h p hp d hd
theorem kd_isAlloc {tr : Bool} {P : Program} {ops : Array Oper} {j : Nat} : kdAt tr P ops j = 0 ↔ isAlloc (opAt ops j) = true := by
  refine ⟨kd_alloc, fun h => ?_⟩
  unfold kdAt kindO
  rw [if_pos h]
end

section
variable {tr : Bool} {E : Env} {ops : Array Oper} {M : List Nat} {ks : List (Nat × PI)} {s : St} {U T : Nat → St}
variable (hD : DC tr E.P ops M ks) (hT : Traj E ops ks s U T) (hin : ∀ j, j < ops.size → kdAt tr E.P ops j = 0 → ∀ d, dsAt ops j = some d → d < s.a.length)
include hD hT

theorem uses_end {j : Nat} (hj : j < ops.size) : usesOf E (T j).a (poAt tr E.P ops j) = usesOf E (T ops.size).a (poAt tr E.P ops j) := by
  cases hl : isLoose (poAt tr E.P ops j) with
  | true => rw [usesOf_loose hl, usesOf_loose hl]
  | false => exact usesOf_slots (a_read hD hT hj hl).right
theorem touch_end {j : Nat} (hj : j < ops.size) : touchOf E (T j).a (poAt tr E.P ops j) = touchOf E (T ops.size).a (poAt tr E.P ops j) := by
  cases hl : isLoose (poAt tr E.P ops j) with
  | true => rw [touchOf_loose hl, touchOf_loose hl]
  | false => exact touchOf_slots (a_read hD hT hj hl).right

theorem t_float {j : Nat} (hj : j < ops.size) (h : kdAt tr E.P ops j = 1) : ∃ b x, gOut E (T j).a (gdAt ops j) = some b ∧ T (j + 1) = ⟨putA (T j).a (dsAt ops j) x, (T j).H⟩ ∧
    (b = true → (evalOp E (T j).a (T j).H (poAt tr E.P ops j)).run = some (x, (T j).H)) ∧ (b = false → x = .v (.tuple #[])) := by
  obtain ⟨b, h1, h2, h3⟩ := t_step hD hT hj (by omega)
  have hh : (piAt tr E.P ops M j).hide = [] := by simp [piAt, h]
  cases b with
  | true =>
    obtain ⟨x, H', h4, h5⟩ := h2 rfl
    rw [hh] at h4 h5
    have h4' : (evalOp E (T j).a (T j).H (poAt tr E.P ops j)).run = some (x, H') := h4
    have he := (evalOp_float (kd_float h) h4').1
    subst he
    exact ⟨true, x, h1, h5, fun _ => h4', fun h => by cases h⟩
  | false => exact ⟨false, _, h1, h3 rfl, fun h => (by cases h), fun _ => rfl⟩

theorem t_same : ∀ (d u : Nat), u + d ≤ ops.size → (∀ j, u ≤ j → j < u + d → kdAt tr E.P ops j ≠ 2) → (T (u + d)).H = (T u).H
  | 0, u, _, _ => rfl
  | d + 1, u, hb, hn => by
    have ih := t_same d u (by omega) fun j h1 h2 => hn j h1 (by omega)
    rw [← ih]
    show (T (u + d + 1)).H = _
    rcases kd_cases (tr := tr) (P := E.P) (ops := ops) (u + d) with hk | hk | hk
    · rw [t_alloc hD hT (by omega) hk]
    · obtain ⟨b, x, _, h2, _⟩ := t_float hD hT (j := u + d) (by omega) hk
      rw [h2]
    · exact absurd hk (hn (u + d) (by omega) (by omega))

include hin
theorem hid_mem {j : Nat} (hj : j < ops.size) (h : kdAt tr E.P ops j = 2) (id : Nat) : id ∈ hidden (T j).a (piAt tr E.P ops M j).hide ↔ ∃ b, b < ops.size ∧ kdAt tr E.P ops b = 0 ∧ isBefore M b j = false ∧ id = (U b).H.length := by
  have hh : (piAt tr E.P ops M j).hide = hideOf ops M j := by simp [piAt, h]
  rw [hh]
  unfold hidden
  rw [mapL_eq, List.mem_map]
  constructor
  · rintro ⟨d, hd, he⟩
    unfold hideOf at hd
    rw [List.mem_filterMap] at hd
    obtain ⟨b, hb, hb2⟩ := hd
    have hb1 := List.mem_range.1 hb
    simp only [opAt_eq hb1] at hb2
    split at hb2
    · rename_i hc
      rw [Bool.and_eq_true, Bool.not_eq_true'] at hc
      have hk : kdAt tr E.P ops b = 0 := kd_isAlloc.2 hc.1
      have ha := a_alloc hD hT hb1 hk hb2 (hin b hb1 hk d hb2) (v := j) (by omega)
      rw [nth_eq, ha] at he
      exact ⟨b, hb1, hk, hc.2, he.symm⟩
    · cases hb2
  · rintro ⟨b, hb1, hk, hc, rfl⟩
    obtain ⟨d, hd⟩ := hD.allocDst hb1 hk
    refine ⟨d, ?_, ?_⟩
    · unfold hideOf
      rw [List.mem_filterMap]
      refine ⟨b, List.mem_range.2 hb1, ?_⟩
      have h2 : (isAlloc (opAt ops b) && !isBefore M b j) = true := by rw [kd_isAlloc.1 hk, hc]; rfl
      simp only [opAt_eq hb1, h2, if_true]
      exact hd
    · rw [nth_eq, a_alloc hD hT hb1 hk hd (hin b hb1 hk d hd) (v := j) (by omega)]

/-- an operation that changes memory -/
theorem t_heavy {j : Nat} (hj : j < ops.size) (h : kdAt tr E.P ops j = 2) : ∃ b x, gOut E (T j).a (gdAt ops j) = some b ∧ (T (j + 1)).a = putA (T j).a (dsAt ops j) x ∧
    (b = true → ∃ hid H', (∀ id, id ∈ hid ↔ ∃ b, b < ops.size ∧ kdAt tr E.P ops b = 0 ∧ isBefore M b j = false ∧ id = (U b).H.length) ∧
      (evalOp E (T j).a (killP (T j).H (· ∈ hid)) (poAt tr E.P ops j)).run = some (x, H') ∧ (T (j + 1)).H = revive (T j).H H' hid) ∧
    (b = false → x = .v (.tuple #[]) ∧ (T (j + 1)).H = (T j).H) := by
  obtain ⟨b, h1, h2, h3⟩ := t_step hD hT hj (by omega)
  cases b with
  | true =>
    obtain ⟨x, H', h4, h5⟩ := h2 rfl
    rw [deaden_eq] at h4
    exact ⟨true, x, h1, by rw [h5], fun _ => ⟨_, H', hid_mem hD hT hin hj h, h4, by rw [h5]⟩, fun h => by cases h⟩
  | false => exact ⟨false, _, h1, by rw [h3 rfl], fun h => (by cases h), fun _ => ⟨rfl, by rw [h3 rfl]⟩⟩

omit hD hT hin in
theorem mono_self {H : List ABlk} {l : List Nat} (hb : ∀ id ∈ l, id < H.length) : Mono (· ∈ l) (killP H (· ∈ l)) (killP H (· ∈ l)) (killP H (· ∈ l)) (killP H (· ∈ l)) :=
  ⟨rfl, fun _ _ => rfl, fun id b hD hb => by
    rw [killP_on hD] at hb
    simp only [Option.map_eq_some_iff] at hb
    obtain ⟨c, _, rfl⟩ := hb
    rfl, fun _ _ => rfl, fun _ _ => rfl, fun id h => by rw [killP_len]; exact hb id h⟩

theorem t_zero {b : Nat} (hb : b < ops.size) (hk : kdAt tr E.P ops b = 0) : ∀ (v : Nat), v ≤ ops.size → (∀ h, h < v → kdAt tr E.P ops h = 2 → isBefore M b h = false) → (T v).H[(U b).H.length]? = (T 0).H[(U b).H.length]?
  | 0, _, _ => rfl
  | v + 1, hv, hn => by
    have ih := t_zero hb hk v (by omega) fun h h1 => hn h (by omega)
    rw [← ih]
    rcases kd_cases (tr := tr) (P := E.P) (ops := ops) v with h0 | h0 | h0
    · rw [t_alloc hD hT (by omega) h0]
    · obtain ⟨b, x, _, h2, _⟩ := t_float hD hT (j := v) (by omega) h0
      rw [h2]
    · obtain ⟨bb, x, h1, _, h3, h4⟩ := t_heavy hD hT hin (j := v) (by omega) h0
      cases bb with
      | false => rw [(h4 rfl).2]
      | true =>
        obtain ⟨hid, H', h5, h6, h7⟩ := h3 rfl
        rw [h7]
        -- every hidden block stands in the heap
        have hall : ∀ id ∈ hid, id < (T v).H.length := fun id hid' => by
          obtain ⟨b', k1, k2, k3, rfl⟩ := (h5 id).1 hid'
          have := t_zero k1 k2 v (by omega) fun h h1 h2 => by
            cases hc : isBefore M b' h with
            | false => rfl
            | true =>
              rw [(hD.chain h1 (by omega) h2 h0).2 b' hc] at k3
              cases k3
          obtain ⟨t, z, _, _, hz⟩ := u_zero hD hT k1 k2
          rw [hz] at this
          exact (List.getElem?_eq_some_iff.1 this).1
        have hm : (U b).H.length ∈ hid := (h5 _).2 ⟨b, hb, hk, hn v (by omega) h0, rfl⟩
        obtain ⟨H2', _, hM⟩ := (mono_self hall).evalOp (E := E) (a := (T v).a) (kd_heavy h0) h6
        refine revive_on hm (hall _ hm) ?_
        exact hM.bound _ hm
theorem t_hall {j : Nat} (hj : j < ops.size) (h0 : kdAt tr E.P ops j = 2) {b : Nat} (k1 : b < ops.size) (k2 : kdAt tr E.P ops b = 0) (k3 : isBefore M b j = false) : (U b).H.length < (T j).H.length := by
  have := t_zero hD hT hin k1 k2 j (by omega) fun h h1 h2 => by
    cases hc : isBefore M b h with
    | false => rfl
    | true =>
      rw [(hD.chain h1 hj h2 h0).2 b hc] at k3
      cases k3
  obtain ⟨t, z, _, _, hz⟩ := u_zero hD hT k1 k2
  rw [hz] at this
  exact (List.getElem?_eq_some_iff.1 this).1

theorem t_like1 {j : Nat} (hj : j < ops.size) {id : Nat} (hn : kdAt tr E.P ops j = 2 → id ∉ touchOf E (T ops.size).a (poAt tr E.P ops j)) : LikeAt (T j).H (T (j + 1)).H id := by
  rcases kd_cases (tr := tr) (P := E.P) (ops := ops) j with h0 | h0 | h0
  · rw [t_alloc hD hT hj h0]; exact .refl _ _
  · obtain ⟨b, x, _, h2, _⟩ := t_float hD hT hj h0
    rw [h2]; exact .refl _ _
  · obtain ⟨bb, x, h1, _, h3, h4⟩ := t_heavy hD hT hin hj h0
    cases bb with
    | false => rw [(h4 rfl).2]; exact .refl _ _
    | true =>
      obtain ⟨hid, H', h5, h6, h7⟩ := h3 rfl
      rw [h7]
      have hall : ∀ id ∈ hid, id < (T j).H.length := fun id hid' => by
        obtain ⟨b', k1, k2, k3, rfl⟩ := (h5 id).1 hid'
        exact t_hall hD hT hin hj h0 k1 k2 k3
      obtain ⟨H2', _, hM⟩ := (mono_self hall).evalOp (E := E) (a := (T j).a) (kd_heavy h0) h6
      intro b hb
      by_cases hm : id ∈ hid
      · refine ⟨b, ?_, .refl b⟩
        rw [revive_on hm (hall _ hm) (hM.bound _ hm)]
        exact hb
      · rw [revive_off hm]
        have hslots : touchOf E (T j).a (poAt tr E.P ops j) = touchOf E (T ops.size).a (poAt tr E.P ops j) := touch_end hD hT hj
        exact evalOp_touch (kd_heavy h0) h6 (by rw [hslots]; exact hn h0) b (by rw [killP_off (D := (· ∈ hid)) hm]; exact hb)
theorem t_like {id : Nat} : ∀ (d u : Nat), u + d ≤ ops.size → (∀ j, u ≤ j → j < u + d → kdAt tr E.P ops j = 2 → id ∉ touchOf E (T ops.size).a (poAt tr E.P ops j)) → LikeAt (T u).H (T (u + d)).H id
  | 0, u, _, _ => .refl _ _
  | d + 1, u, hb, hn =>
    (t_like d u (by omega) fun j h1 h2 => hn j h1 (by omega)).trans (t_like1 hD hT hin (j := u + d) (by omega) (hn (u + d) (by omega) (by omega)))
end
end Go.Ev
