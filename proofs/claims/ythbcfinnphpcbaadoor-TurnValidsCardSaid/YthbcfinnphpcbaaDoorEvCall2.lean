/- A call: back in the caller (own work). -/
import Derived.Test.YthbcfinnphpcbaaDoorEvCall
namespace Go.Ev
open Go
section
variable {W : Nat → Prop} {ρ ρ1 : Rho} {H H2 blks out : List ABlk} {F F1 : Fz} {w w1 : World}

theorem modAt_eq (H : List ABlk) (id : Nat) (f : ABlk → ABlk) (b : ABlk) (hb : H[id]? = some b) : modAt H id f = H.set id (f b) := by
  simp [modAt, nth_eq, hb, setAt_eq]
theorem modAt_len (H : List ABlk) (id : Nat) (f : ABlk → ABlk) : (modAt H id f).length = H.length := by
  unfold modAt
  split
  · rw [setAt_eq]; simp
  · rfl

theorem putBack_ok : ∀ {roots : List Nat} {H out H2 : List ABlk}, roots.Nodup → (∀ id ∈ roots, id < H.length) → putBack H roots out = some H2 →
    roots.length ≤ out.length ∧ H2.length = H.length + (out.length - roots.length) ∧
    (∀ (j : Nat) id, roots[j]? = some id → ∃ b c, H[id]? = some b ∧ out[j]? = some c ∧ H2[id]? = some { c with g := b.g + c.g }) ∧
    (∀ id, id < H.length → id ∉ roots → H2[id]? = H[id]?) ∧ ∀ i, H2[H.length + i]? = out[roots.length + i]?
  | [], H, out, H2, _, _, h => by
    have h2 : H2 = H ++ out := by
      cases out with
      | nil => simp [putBack] at h; simp [h]
      | cons c out => simp [putBack, app_eq] at h; exact h.symm
    subst h2
    refine ⟨by simp, by simp, fun j id h => by simp at h, fun id hid _ => List.getElem?_append_left hid, fun i => ?_⟩
    rw [List.getElem?_append_right (by omega)]
    simp
  | id :: roots, H, [], H2, _, _, h => by simp [putBack] at h
  | id :: roots, H, c :: out, H2, hn, hlt, h => by
    simp only [putBack] at h
    have hid := hlt id (by simp)
    have hb := List.getElem?_eq_getElem hid
    rw [modAt_eq H id _ _ hb] at h
    obtain ⟨hn1, hn2⟩ := List.nodup_cons.1 hn
    obtain ⟨h1, h2, h3, h4, h5⟩ := putBack_ok hn2 (fun id' h' => by simp; exact hlt id' (by simp [h'])) h
    simp only [List.length_set] at h2 h4 h5
    refine ⟨by simp; omega, by simp only [List.length_cons]; omega, fun j id' hj => ?_, fun id' hid' hni => ?_, fun i => ?_⟩
    · cases j with
      | zero =>
        simp at hj
        subst hj
        refine ⟨_, c, hb, rfl, ?_⟩
        rw [h4 id hid hn1, List.getElem?_set_self hid]
      | succ j =>
        obtain ⟨b', c', g1, g2, g3⟩ := h3 j id' (by simpa using hj)
        have hne : id ≠ id' := fun e => by subst e; exact hn1 (List.mem_of_getElem? (by simpa using hj))
        rw [List.getElem?_set_ne hne] at g1
        exact ⟨b', c', g1, by simpa using g2, g3⟩
    · have hne : id ≠ id' := fun e => hni (by simp [e])
      rw [h4 id' hid' (fun h => hni (by simp [h])), List.getElem?_set_ne hne]
    · rw [h5 i]
      simp only [List.length_cons]
      rw [show roots.length + 1 + i = (roots.length + i) + 1 by omega]
      simp

theorem settle_cons (id : Nat) (lent : List Nat) (held : Bool) (H : List ABlk) : settle (id :: lent) held H = if held then disown (settle lent held H) id else settle lent held H := by
  have : settle (id :: lent) held H = Bool.rec (settle lent held H) (disown (settle lent held H) id) held := rfl
  rw [this]
  cases held <;> rfl
theorem settle_ok (held : Bool) (H : List ABlk) : ∀ (lent : List Nat), (settle lent held H).length = H.length ∧
    ∀ (id : Nat) b2, (settle lent held H)[id]? = some b2 → ∃ b, H[id]? = some b ∧ b2 = { b with own := b2.own } ∧ (b2.own = b.own ∨ (held = true ∧ id ∈ lent ∧ b2.own = false)) ∧ (held = true → id ∈ lent → b2.own = false)
  | [] => ⟨rfl, fun id b2 h => ⟨b2, h, rfl, .inl rfl, fun _ h => by simp at h⟩⟩
  | l :: lent => by
    obtain ⟨h1, h2⟩ := settle_ok held H lent
    rw [settle_cons]
    cases held with
    | false =>
      simp only [Bool.false_eq_true, if_false]
      refine ⟨h1, fun id b2 hb => ?_⟩
      obtain ⟨b, g1, g2, g3, g4⟩ := h2 id b2 hb
      refine ⟨b, g1, g2, ?_, fun h => by cases h⟩
      rcases g3 with g3 | ⟨g3, _⟩
      · exact .inl g3
      · cases g3
    | true =>
      simp only [if_true]
      refine ⟨by simp [disown, modAt_len, h1], fun id b2 hb => ?_⟩
      by_cases hl : l = id
      · subst hl
        have hlt : l < (settle lent true H).length := by
          have := (List.getElem?_eq_some_iff.1 hb).1
          simpa [disown, modAt_len] using this
        have hg := List.getElem?_eq_getElem hlt
        obtain ⟨b, g1, g2, g3, g4⟩ := h2 l _ hg
        unfold disown at hb
        rw [modAt_eq _ l _ _ hg, List.getElem?_set_self hlt] at hb
        injection hb with hb
        subst hb
        exact ⟨b, g1, by rw [g2], .inr ⟨trivial, List.mem_cons_self, rfl⟩, fun _ _ => rfl⟩
      · have hb' : (settle lent true H)[id]? = some b2 := by
          unfold disown modAt at hb
          split at hb
          · rwa [setAt_eq, List.getElem?_set_ne hl] at hb
          · exact hb
        obtain ⟨b, g1, g2, g3, g4⟩ := h2 id b2 hb'
        refine ⟨b, g1, g2, ?_, fun h hm => ?_⟩
        · rcases g3 with g3 | ⟨g3, g5, g6⟩
          · exact .inl g3
          · exact .inr ⟨trivial, List.mem_cons_of_mem _ g5, g6⟩
        · rcases List.mem_cons.1 hm with h' | h'
          · exact absurd h'.symm hl
          · exact g4 rfl h'

theorem apartN_ok : ∀ {l r : List Nat}, apartN l r = true → ∀ x ∈ l, x ∉ r
  | [], _, _, x, hx => by simp at hx
  | y :: l, r, h, x, hx => by
    have h' : (Bool.rec (apartN l r) false (memN y r) : Bool) = true := h
    cases hm : memN y r with
    | true => rw [hm] at h'; cases h'
    | false =>
      rw [hm] at h'
      rcases List.mem_cons.1 hx with rfl | hx
      · rw [memN_eq] at hm; simpa using hm
      · exact apartN_ok h' x hx

/-- the shape, of what the evaluator does -/
theorem shape_of {p : Prep} {held : Bool} (hp : PrepOk H p) (hbl : blksAt H p.roots = some blks) (hap : apartN p.lent p.roots = true) (hpb : putBack H p.roots out = some H2) :
    Shape H blks out (settle p.lent held H2) (posOf p.roots) (· ∈ p.lent) (held = true) := by
  obtain ⟨hl, hat⟩ := blksAt_ok hbl
  have hlt : ∀ id ∈ p.roots, id < H.length := fun id hid => by
    obtain ⟨b, hb, _⟩ := hp.live id hid
    exact (List.getElem?_eq_some_iff.1 hb).1
  obtain ⟨g1, g2, g3, g4, g5⟩ := putBack_ok hp.nodup hlt hpb
  obtain ⟨s1, s2⟩ := settle_ok held H2 p.lent
  have hnone : ∀ id, posOf p.roots id = none → id ∉ p.roots := fun id h => idxFrom_none _ _ _ h
  have hnot : ∀ id, id ∈ p.lent → posOf p.roots id = none := fun id hid => by
    cases h : posOf p.roots id with
    | none => rfl
    | some j => exact absurd (List.mem_of_getElem? (posOf_some h)) (apartN_ok hap id hid)
  refine ⟨fun id j h => ?_, fun id id' j h h' => ?_, fun j hj => ?_, fun id j b h hb => ?_, fun id h => ⟨hnot id h, hp.lent id h⟩, by omega, fun id b2 hid hn hb2 => ?_, fun id b2 hh hm hb2 => ?_, fun id j b2 h hb2 => ?_, fun id b2 hge hb2 => ?_, by rw [s1, g2, hl]⟩
  · have h1 := posOf_some h
    exact ⟨hlt id (List.mem_of_getElem? h1), by rw [hl]; exact (List.getElem?_eq_some_iff.1 h1).1⟩
  · have h1 := posOf_some h
    have h2 := posOf_some h'
    exact Option.some.inj (h1.symm.trans h2)
  · rw [hl] at hj
    exact ⟨p.roots[j], posOf_of hp.nodup (List.getElem?_eq_getElem hj)⟩
  · have h1 := posOf_some h
    obtain ⟨b', hb', hb2⟩ := hat j id h1
    have : b' = b := Option.some.inj (hb'.symm.trans hb)
    subst this
    obtain ⟨b3, hb3, hd3⟩ := hp.live id (List.mem_of_getElem? h1)
    have : b3 = b' := Option.some.inj (hb3.symm.trans hb)
    subst this
    exact ⟨hb2, hd3⟩
  · obtain ⟨b, k1, k2, k3, _⟩ := s2 id b2 hb2
    rw [g4 id hid (hnone id hn)] at k1
    refine ⟨b, k1, k2, ?_⟩
    rcases k3 with k3 | ⟨a1, a2, a3⟩
    · exact .inl k3
    · exact .inr ⟨a1, a2, a3⟩
  · obtain ⟨b, k1, k2, k3, k4⟩ := s2 id b2 hb2
    exact k4 hh hm
  · have h1 := posOf_some h
    obtain ⟨b, c, k1, k2, k3⟩ := g3 j id h1
    obtain ⟨b', m1, m2, m3, _⟩ := s2 id b2 hb2
    have : b' = { c with g := b.g + c.g } := Option.some.inj (m1.symm.trans k3)
    subst this
    refine ⟨b, c, k1, k2, ?_⟩
    rcases m3 with m3 | ⟨_, m4, _⟩
    · rw [m2, m3]
    · exact absurd (hnot id m4) (by rw [h]; simp)
  · obtain ⟨b', m1, m2, m3, _⟩ := s2 id b2 hb2
    have e : id = H.length + (id - H.length) := by omega
    rw [e, g5] at m1
    rw [hl]
    rcases m3 with m3 | ⟨_, m4, _⟩
    · have : b2 = b' := by rw [m2, m3]
      rw [this]; exact m1
    · obtain ⟨b3, hb3, _⟩ := hp.lent id m4
      have := (List.getElem?_eq_some_iff.1 hb3).1
      omega

def isBare : AVal → Bool
  | .agg _ | .tup _ | .fn _ _ => false
  | _ => true
/-- an id of the callee's, in the caller -/
theorem backId_ok {p : Prep} {held : Bool} (hp : PrepOk H p) (hbl : blksAt H p.roots = some blks) (hap : apartN p.lent p.roots = true) (hpb : putBack H p.roots out = some H2) {j g id g' : Nat} {c : ABlk} (hc : out[j]? = some c)
    (hid : backId H p.roots j g = (id, g')) : ∃ b2, (settle p.lent held H2)[id]? = some b2 ∧ (∃ n, b2 = { c with g := n + c.g } ∧ g' = n + g) ∧ BackRho ρ ρ1 H.length blks.length (posOf p.roots) id = ρ1 j := by
  have hS := shape_of (held := held) hp hbl hap hpb
  obtain ⟨hl, hat⟩ := blksAt_ok hbl
  unfold backId at hid
  rw [nth_eq] at hid
  cases hr : p.roots[j]? with
  | some id0 =>
    obtain ⟨b, hb, _⟩ := hat j id0 hr
    simp only [hr, nth_eq, hb] at hid
    injection hid with e1 e2
    subst e1 e2
    have hpos := posOf_of hp.nodup hr
    have hlt2 : id0 < (settle p.lent held H2).length := by have := hS.len; have := (hS.posLt id0 j hpos).1; omega
    obtain ⟨b', c', k1, k2, k3⟩ := hS.root id0 j _ hpos (List.getElem?_eq_getElem hlt2)
    have : b' = b := Option.some.inj (k1.symm.trans hb)
    subst this
    have : c' = c := Option.some.inj (k2.symm.trans hc)
    subst this
    exact ⟨_, List.getElem?_eq_getElem hlt2, ⟨b'.g, k3, rfl⟩, by simp [BackRho, hpos]⟩
  | none =>
    simp only [hr, len_eq] at hid
    injection hid with e1 e2
    subst e1 e2
    have hjl := (List.getElem?_eq_some_iff.1 hc).1
    have hjge : p.roots.length ≤ j := by
      rcases Nat.lt_or_ge j p.roots.length with h | h
      · rw [List.getElem?_eq_getElem h] at hr; cases hr
      · exact h
    have hlt2 : H.length + (j - p.roots.length) < (settle p.lent held H2).length := by have := hS.len; omega
    have hn := hS.new _ _ (by omega) (List.getElem?_eq_getElem hlt2)
    have e : blks.length + (H.length + (j - p.roots.length) - H.length) = j := by omega
    rw [e] at hn
    have hbc := Option.some.inj (hn.symm.trans hc)
    refine ⟨_, List.getElem?_eq_getElem hlt2, ⟨0, by rw [hbc]; simp, by simp⟩, ?_⟩
    have hnn : posOf p.roots (H.length + (j - p.roots.length)) = none := by
      cases h : posOf p.roots (H.length + (j - p.roots.length)) with
      | none => rfl
      | some j' => have := (hS.posLt _ _ h).1; omega
    have hnl : ¬ (H.length + (j - p.roots.length) < H.length) := by omega
    simp only [BackRho, hnn, if_neg hnl]
    rw [e]

section
variable {p : Prep} {held : Bool} (hp : PrepOk H p) (hbl : blksAt H p.roots = some blks) (hap : apartN p.lent p.roots = true) (hpb : putBack H p.roots out = some H2)
include hp hbl hap hpb

theorem back_cell {x : AVal} {x' : Value} (hx : CRel ρ1 out F1 w1 x x') (hh : held = true ∨ holds1 x = false) :
    CRel (BackRho ρ ρ1 H.length blks.length (posOf p.roots)) (settle p.lent held H2) (BackF ρ H F F1 (· ∈ p.lent) (held = true)) w1 (backC H p.roots x) x' := by
  have hm : ∀ {y y'}, MRel F1 w1 y y' → (held = true ∨ holds1 y = false) → MRel (BackF ρ H F F1 (· ∈ p.lent) (held = true)) w1 y y' := fun {y y'} h hh => by
    rcases hh with hh | hh
    · exact h.adv (fun b o h => ⟨h, .inl hh⟩) (fun _ _ _ => rfl)
    · exact h.bare hh
  cases hx with
  | mem h =>
    cases h with
    | v u h1 => exact .v _
    | fn f => exact .mem (.fn f)
    | tree es n get ad cap cs hs hcap hes hF hw hr =>
      have hh' : held = true := hh.resolve_right (by simp [holds1])
      exact .mem (hm (.tree es n get ad cap cs hs hcap hes hF hw hr) (.inl hh'))
    | nil es get => exact .mem (.nil es get)
  | v u => exact .v _
  | ptr id i c g ad b hb hd hg h =>
    simp only [backC]
    cases hid : backId H p.roots id g with
    | mk id2 g2 =>
    obtain ⟨b2, k1, ⟨n, k2, k3⟩, k4⟩ := backId_ok (ρ := ρ) (ρ1 := ρ1) (held := held) hp hbl hap hpb hb hid
    refine .ptr id2 i c g2 ad b2 k1 (by rw [k2]; exact hd) (by rw [k2, k3]; simp; exact hg) fun hge => ?_
    rw [k4, h (by rw [k2, k3] at hge; simp at hge; omega), k2]
  | sl id off n g ad cap b hb hd hg hn hs hcm h =>
    simp only [backC]
    cases hid : backId H p.roots id g with
    | mk id2 g2 =>
    obtain ⟨b2, k1, ⟨m, k2, k3⟩, k4⟩ := backId_ok (ρ := ρ) (ρ1 := ρ1) (held := held) hp hbl hap hpb hb hid
    refine .sl id2 off n g2 ad cap b2 k1 (by rw [k2]; exact hd) (by rw [k2, k3]; simp; exact hg) hn hs hcm fun hge => ?_
    have := h (by rw [k2, k3] at hge; simp at hge; omega)
    rw [k4, k2]
    exact this
  | tptr cs ad vs hs hF hw hr =>
    have hh' : held = true := hh.resolve_right (by simp [holds1])
    exact .tptr cs ad vs hs (fun c hc => ⟨hF c hc, .inl hh'⟩) hw fun c hc => hm (hr c hc) (.inl hh')
  | unk x' => exact .unk _

theorem back_v {x : AVal} {x' : Value} (hx : VRel ρ1 out F1 w1 x x') (hh : held = true ∨ holdsTree x = false) :
    VRel (BackRho ρ ρ1 H.length blks.length (posOf p.roots)) (settle p.lent held H2) (BackF ρ H F F1 (· ∈ p.lent) (held = true)) w1 (backVal1 H p.roots x) x' := by
  have hbar : ∀ {y : AVal}, isBare y = true → backVal1 H p.roots y = backC H p.roots y ∧ holdsTree y = holds1 y := fun {y} h => by
    cases y with
    | agg => cases h
    | tup => cases h
    | fn => cases h
    | _ => exact ⟨rfl, rfl⟩
  cases hx with
  | cell h =>
    by_cases hb : isBare x = true
    · obtain ⟨e1, e2⟩ := hbar hb
      rw [e1]
      exact .cell (back_cell hp hbl hap hpb h (e2 ▸ hh))
    · cases h with
      | mem h => cases h with
        | fn f => exact .cell (.mem (.fn f))
        | _ => exact absurd rfl hb
      | _ => exact absurd rfl hb
  | agg cs vs hl h =>
    show VRel _ _ _ _ (.agg (mapL (backC H p.roots) cs)) _
    rw [mapL_eq]
    refine .agg _ vs (by simpa using hl) fun i x x' hx hx' => ?_
    simp only [List.getElem?_map, Option.map_eq_some_iff] at hx
    obtain ⟨y, hy, rfl⟩ := hx
    refine back_cell hp hbl hap hpb (h i y x' hy hx') (hh.imp id fun hh => ?_)
    have hh' : cs.any holds1 = false := hh
    rw [List.any_eq_false] at hh'
    simpa using hh' y (List.mem_of_getElem? hy)
  | fn f caps vs hl h =>
    show VRel _ _ _ _ (.fn f (mapL (backC H p.roots) caps)) _
    rw [mapL_eq]
    refine .fn f _ vs (by simpa using hl) fun i x x' hx hx' => ?_
    simp only [List.getElem?_map, Option.map_eq_some_iff] at hx
    obtain ⟨y, hy, rfl⟩ := hx
    have hc := h i y x' hy hx'
    refine back_cell hp hbl hap hpb hc (hh.imp id fun hh => ?_)
    have hh' : caps.any holdsC = false := hh
    rw [List.any_eq_false] at hh'
    have := hh' y (List.mem_of_getElem? hy)
    cases y with
    | fn f l => cases hc with
      | mem h => cases h; rfl
    | tree => exact absurd rfl this
    | tptr => exact absurd rfl this
    | _ => rfl

theorem back_w {x : AVal} {x' : Value} (hx : WRel ρ1 out F1 w1 x x') (hh : held = true ∨ holdsTree x = false) :
    WRel (BackRho ρ ρ1 H.length blks.length (posOf p.roots)) (settle p.lent held H2) (BackF ρ H F F1 (· ∈ p.lent) (held = true)) w1 (backVal H p.roots x) x' := by
  cases hx with
  | val h =>
    have e : backVal H p.roots x = backVal1 H p.roots x ∨ ∃ vs, x = .tup vs := by
      cases x with
      | tup vs => exact .inr ⟨vs, rfl⟩
      | _ => exact .inl rfl
    rcases e with e | ⟨vs, rfl⟩
    · rw [e]
      exact .val (back_v hp hbl hap hpb h hh)
    · cases h with
      | cell h => cases h with
        | mem h => cases h
  | tup xs vs hl h =>
    show WRel _ _ _ _ (.tup (mapL (backVal1 H p.roots) xs)) _
    rw [mapL_eq]
    refine .tup _ vs (by simpa using hl) fun i x x' hx hx' => ?_
    simp only [List.getElem?_map, Option.map_eq_some_iff] at hx
    obtain ⟨y, hy, rfl⟩ := hx
    refine back_v hp hbl hap hpb (h i y x' hy hx') (hh.imp id fun hh => ?_)
    have hh' : xs.any holdsV = false := hh
    rw [List.any_eq_false] at hh'
    have := hh' y (List.mem_of_getElem? hy)
    have e : holdsTree y = holdsV y ∨ ∃ l, y = .tup l := by
      cases y with
      | tup l => exact .inr ⟨l, rfl⟩
      | _ => exact .inl rfl
    rcases e with e | ⟨l, rfl⟩
    · rw [e]; simpa using this
    · cases h i _ x' hy hx' with
      | cell h => cases h with
        | mem h => cases h
end
end
end Go.Ev
