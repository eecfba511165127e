/- Slices: what they hold, append, copy, make, cut (own work). -/
import Derived.Test.YthbcfinnphpcbaaDoorEvMem
namespace Go.Ev
open Go
section
variable {W : Nat → Prop} {ρ : Rho} {H H' : List ABlk} {F : Fz} {w : World} {E : Env} {o : Oper} {a : List AVal} {ac : Act} {x : AVal}

theorem divmod_lt {k m es : Nat} (h : k < m * es) : k / es < m ∧ k % es < es ∧ k / es * es + k % es = k := by
  have hes : 0 < es := by
    rcases Nat.eq_zero_or_pos es with h0 | h0
    · subst h0; simp at h
    · exact h0
  refine ⟨Nat.div_lt_of_lt_mul (by rwa [Nat.mul_comm] at h), Nat.mod_lt _ hes, ?_⟩
  rw [Nat.mul_comm]
  exact Nat.div_add_mod k es

/-- what a slice holds, as the model has it -/
structure Holds (F : Fz) (w : World) (es : Nat) (news : List (List AVal)) (x' : Value) (nv : List Value) : Prop where
  rows : ∀ (i : Nat) r, news[i]? = some r → r.length = es
  len : nv.length = news.length * es
  form : (x' = .slice none 0 0 ∧ news = []) ∨ ∃ ad cap, x' = .slice (some ad) news.length cap ∧ (0 < news.length → ad.spot = none) ∧ ∀ j v, nv[j]? = some v → w.cell? (ad.add j) = some v
  cell : ∀ (i : Nat) r (c : Nat) u, news[i]? = some r → r[c]? = some u → ∃ u', nv[i * es + c]? = some u' ∧ MRel F w u u'
  one : ∀ u ∈ nv, u.oneCell' = true

theorem Holds.mk' {es : Nat} {news : List (List AVal)} {ad : Addr} {cap : Nat} (hs : 0 < news.length → ad.spot = none) (f : Nat → Value) (rows : ∀ (i : Nat) r, news[i]? = some r → r.length = es)
    (hc : ∀ k, k < news.length * es → w.cell? ⟨ad.block, ad.off + k, none⟩ = some (f k))
    (hr : ∀ (i : Nat) r (c : Nat) u, news[i]? = some r → r[c]? = some u → MRel F w u (f (i * es + c))) :
    Holds F w es news (.slice (some ad) news.length cap) ((List.range (news.length * es)).map f) := by
  refine ⟨rows, by simp, .inr ⟨ad, cap, rfl, hs, fun j v hj => ?_⟩, fun i r c u h1 h2 => ?_, fun u hu => ?_⟩
  · obtain ⟨h1, h2⟩ := rangeMap hj
    have hpos : 0 < news.length := by
      rcases Nat.eq_zero_or_pos news.length with h0 | h0
      · rw [h0] at h1; omega
      · exact h0
    rw [add_spot (hs hpos), hc j h1, h2]
  · have hi := (List.getElem?_eq_some_iff.1 h1).1
    have hcl : c < es := by rw [← rows i r h1]; exact (List.getElem?_eq_some_iff.1 h2).1
    have hlt : i * es + c < news.length * es := by
      have := Nat.mul_le_mul_right es (show i + 1 ≤ news.length from hi)
      rw [Nat.add_mul, Nat.one_mul] at this
      omega
    exact ⟨f (i * es + c), by simp [hlt], hr i r c u h1 h2⟩
  · obtain ⟨k, hk, rfl⟩ := List.mem_map.1 hu
    have hk' : k < news.length * es := by simpa using hk
    obtain ⟨h1, h2, h3⟩ := divmod_lt hk'
    have hlen := rows (k / es) _ (List.getElem?_eq_getElem h1)
    have := hr (k / es) _ (k % es) _ (List.getElem?_eq_getElem h1) (List.getElem?_eq_getElem (by omega))
    rw [h3] at this
    exact this.one

theorem elemsOf_ok (hH : HRel W ρ H F w) {es : Nat} {y : AVal} {y' : Value} {news : List (List AVal)} (hy : WRel ρ H F w y y') (he : elemsOf es H y = some news) :
    ∃ nv, Holds F w es news y' nv := by
  revert he hy
  cases y with
  | sl id off n g =>
    intro hy he
    simp only [elemsOf] at he
    cases hbk : blkAt H id g with
    | none => simp [hbk] at he
    | some b =>
    obtain ⟨hb, hd, hg⟩ := blkAt_some hbk
    cases hbe : Nat.beq b.es es with
    | false => simp [hbk, hbe] at he
    | true =>
    have hbes := Nat.eq_of_beq_eq_true hbe
    simp only [hbk, hbe, takeN_eq, dropN_eq] at he
    injection he with he
    obtain ⟨ad, cap, b', e, hb', hd', hg', hn, hspot, -, hh⟩ := inv_sl hy
    have : b' = b := Option.some.inj (hb'.symm.trans hb)
    subst this
    obtain ⟨h3, h4, h5⟩ := hh hg
    obtain ⟨cc, t, fr, hB⟩ := hH.blk id b' hb hd
    have hnl : news.length = n := by rw [← he]; simp; omega
    have hget : ∀ (i : Nat) r, news[i]? = some r → i < n ∧ b'.elems[off + i]? = some r := fun i r hr => by
      rw [← he] at hr
      rcases Nat.lt_or_ge i n with hi | hi
      · rw [List.getElem?_take, if_pos hi, List.getElem?_drop] at hr; exact ⟨hi, hr⟩
      · rw [List.getElem?_eq_none (by simp; omega)] at hr; cases hr
    rw [e, ← hnl]
    refine ⟨_, Holds.mk' (fun _ => hspot) (fun k => cc.getD ((ρ id).off + (off * es + k)) undef) (fun i r hr => by rw [← hbes]; exact hB.rows _ r (hget i r hr).2) (fun k hk => ?_) (fun i r c u h1 h2 => ?_)⟩
    · rw [hnl] at hk
      have hn0 : 0 < n := by rcases Nat.eq_zero_or_pos n with h0 | h0; · subst h0; simp at hk
                             · exact h0
      have had := h3.resolve_left (by omega)
      have hle : (off + n) * es ≤ b'.elems.length * b'.es := by rw [hbes]; exact Nat.mul_le_mul_right _ h5
      rw [Nat.add_mul] at hle
      have := hB.len; have := hB.room
      have hlt : (ρ id).off + (off * es + k) < cc.size := by omega
      rw [had]
      simp only
      rw [hbes, Nat.add_assoc, hB.cellAt]
      simp [hlt]
    · obtain ⟨hi, hr⟩ := hget i r h1
      obtain ⟨x', h6, h7⟩ := hB.cell _ r c u hr h2
      have e2 : (ρ id).off + ((off + i) * b'.es + c) = (ρ id).off + (off * es + (i * es + c)) := by rw [hbes, Nat.add_mul]; omega
      rw [e2] at h6
      have hlt := (Array.getElem?_eq_some_iff.1 h6).1
      rw [Array.getElem?_eq_getElem hlt] at h6
      injection h6 with h6
      simp only [Array.getD, hlt, dif_pos]
      simpa [h6] using h7
  | tree es' n get =>
    intro hy he
    simp only [elemsOf] at he
    cases hbe : Nat.beq es' es with
    | false => simp [hbe] at he
    | true =>
    have hbes := Nat.eq_of_beq_eq_true hbe
    simp only [hbe, mapL_eq] at he
    injection he with he
    have ht := inv_tree hy
    cases ht with
    | tree _ _ _ ad cap cs hs hcap hes' hF hw hr =>
    have hnl : news.length = n := by rw [← he]; simp
    have hget : ∀ (i : Nat) r, news[i]? = some r → i < n ∧ get i = r := fun i r hr => by
      rw [← he] at hr
      exact rangeMap hr
    conv => arg 1; ext nv; rw [← hnl]
    refine ⟨_, Holds.mk' (fun h => hs (by omega)) (fun k => cs (k / es) (k % es)) (fun i r hr => by obtain ⟨h1, h2⟩ := hget i r hr; rw [← h2, hes' i h1, hbes]) (fun k hk => ?_) (fun i r c u h1 h2 => ?_)⟩
    · rw [hnl] at hk
      obtain ⟨h1, h2, h3⟩ := divmod_lt hk
      have := hw (k / es) (k % es) h1 (by omega)
      rw [hbes, h3] at this
      exact this
    · obtain ⟨hi, hgi⟩ := hget i r h1
      subst hgi
      have hcl := (List.getElem?_eq_some_iff.1 h2).1
      have hce : c < es := by rw [← hbes, ← hes' i hi]; exact hcl
      have hd1 : (i * es + c) / es = i := by
        rw [Nat.mul_comm, Nat.mul_add_div (by omega), Nat.div_eq_of_lt hce]; omega
      have hd2 : (i * es + c) % es = c := by rw [Nat.mul_comm, Nat.mul_add_mod, Nat.mod_eq_of_lt hce]
      have := hr i c hi hcl
      rw [List.getElem?_eq_getElem hcl] at h2
      injection h2 with h2
      simp only [hd1, hd2]
      rw [← h2]
      exact this
    | nil =>
      subst he
      exact ⟨[], fun i r h => by simp at h, by simp, .inl ⟨rfl, rfl⟩, fun i r c u h => by simp at h, fun u h => by simp at h⟩
  | v u =>
    intro hy he
    have e := inv_v hy
    unfold elemsOf at he
    split at he
    · cases ‹AVal.v u = _›
    · cases ‹AVal.v u = _›
    · rename_i heq
      injection heq with heq
      injection he with he
      subst he
      exact ⟨[], fun i r h => by simp at h, by simp, .inl ⟨by rw [e, heq], rfl⟩, fun i r c u h => by simp at h, fun u h => by simp at h⟩
    · cases he
  | _ => intro _ he; cases he

end
end Go.Ev
