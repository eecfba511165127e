/- Binary search, and ContainsFunc, as typed steps (own work). -/
import Derived.Test.YtblhkhjdkjjheaaEvX2
set_option linter.unusedVariables false
set_option linter.unusedSimpArgs false
set_option linter.unnecessarySimpa false
set_option linter.unusedSectionVars false
namespace Go.Ev.W.X
open Go Go.Ev Go.Ev.W Go.Proofs
set_option maxRecDepth 100000
theorem lt_trans {a c e : Ent} (h1 : p33 a c = true) (h2 : p33 c e = true) : p33 a e = true := by
  rw [lt_iff] at *; omega
theorem srtF_all : ∀ {l : List Ent} {a : Ent}, srtF a l = true → ∀ x ∈ l, p33 a x = true
  | [], a, h, x, hx => by simp at hx
  | c :: l, a, h, x, hx => by
    have h : (p33 a c && srtF c l) = true := h
    rw [Bool.and_eq_true] at h
    rcases List.mem_cons.1 hx with rfl | hx
    · exact h.1
    · exact lt_trans h.1 (srtF_all h.2 x hx)
theorem srt_tail {a : Ent} : ∀ {l : List Ent}, srt (a :: l) = true → srt l = true
  | [], h => rfl
  | c :: l, h => by
    have h : (p33 a c && srtF c l) = true := h
    rw [Bool.and_eq_true] at h
    exact h.2
theorem ix_spec : ∀ {x : List Ent} {u : Ent}, srt x = true → ∀ j, j < x.length → p33 (gE x j) u = decide (j < ix x u)
  | [], u, hs, j, hj => by simp at hj
  | a :: l, u, hs, j, hj => by
    cases hp : p33 a u with
    | true =>
      have e : ix (a :: l) u = ix l u + 1 := by simp [ix, hp]
      rw [e]
      cases j with
      | zero => exact hp.trans (by simp)
      | succ j =>
        have := ix_spec (u := u) (srt_tail hs) j (by simpa using hj)
        exact this.trans (by simp)
    | false =>
      have e : ix (a :: l) u = 0 := by simp [ix, hp]
      rw [e]
      have : p33 (gE (a :: l) j) u = false := by
        cases j with
        | zero => exact hp
        | succ j =>
          rw [← Bool.not_eq_true]
          intro h
          have hm : gE (a :: l) (j + 1) ∈ l := by
            have hj : j < l.length := by simpa using hj
            show l.getD j _ ∈ l
            rw [List.getD_eq_getElem?_getD, List.getElem?_eq_getElem hj]
            exact List.getElem_mem hj
          have := lt_trans (srtF_all hs _ hm) h
          rw [hp] at this; cases this
      rw [this]; simp
theorem bs34 (x : List Ent) (u : Ent) (hb : x.length ≤ 1152921504606846976) (hs : srt x = true) :
    p34u ⟨x.length, fun k => rE (gE x k), u.t, u.o, u.l, u.h⟩ = ⟨1, ix x u, hasK x (ix x u) u⟩ := by
  have h := lp_inv2 (step := st34_0 ⟨x.length, fun k => rE (gE x k), (x.length : Int), u.t, u.o, u.l, u.h⟩)
    (I := fun m (s : Sg34_0) => ∃ i j : Nat, j - i ≤ m ∧ i ≤ ix x u ∧ ix x u ≤ j ∧ j ≤ x.length ∧ s = ⟨(i : Int), (j : Int)⟩)
    (Q := fun t (s : Sg34_0) => t = 1 ∧ s.is9 = (ix x u : Int)) (fun m s hi => by
      obtain ⟨i, j, hm, h1, h2, h3, rfl⟩ := hi
      by_cases hij : i < j
      · have eh : W (Int.fdiv (IntKind.wrap .u64 (W ((i : Int) + (j : Int)))) 2) = (((i + j) / 2 : Nat) : Int) := by
          rw [W_id (n := (i : Int) + j) (by omega) (by omega), show IntKind.wrap .u64 ((i : Int) + j) = ((i : Int) + j) % 18446744073709551616 from by simp [IntKind.wrap, IntKind.bits, IntKind.signed],
            Int.emod_eq_of_lt (by omega) (by omega), Int.fdiv_eq_ediv_of_nonneg _ (by omega), W_id (by omega) (by omega)]
          omega
        have hh : (i + j) / 2 < x.length := by omega
        have hsp := ix_spec (u := u) hs _ hh
        have e : st34_0 ⟨x.length, fun k => rE (gE x k), (x.length : Int), u.t, u.o, u.l, u.h⟩ ⟨(i : Int), (j : Int)⟩ =
            sel (p33 (gE x ((i + j) / 2)) u) (.next ⟨(((i + j) / 2 + 1 : Nat) : Int), (j : Int)⟩) (.next ⟨(i : Int), (((i + j) / 2 : Nat) : Int)⟩) := by
          simp only [st34_0, su34_0_0, dec_lt hij, eh, inB_nat hh, W_next hh (by omega), Int.toNat_natCast]
          rw [← cmp_lt]
          rfl
        rw [e, hsp]
        by_cases hlt : (i + j) / 2 < ix x u
        · rw [decide_eq_true hlt]
          exact .inr ⟨_, m - 1, by omega, rfl, (i + j) / 2 + 1, j, by omega, by omega, h2, h3, rfl⟩
        · rw [decide_eq_false hlt]
          exact .inr ⟨_, m - 1, by omega, rfl, i, (i + j) / 2, by omega, h1, by omega, by omega, rfl⟩
      · refine .inl ⟨1, ?_, rfl, ?_⟩
        · simp only [st34_0, su34_0_0, dec_nlt (show j ≤ i by omega)]
        · show (i : Int) = _
          omega) x.length ⟨0, (x.length : Int)⟩ (by omega) ⟨0, x.length, by omega, by omega, ix_le _ _, by omega, rfl⟩
  obtain ⟨h1, h2⟩ := h
  simp only [p34u, h1, h2, cmp_eq, Int.toNat_natCast]
  unfold hasK
  by_cases hlt : ix x u < x.length
  · rw [dec_lt hlt, inB_nat hlt, decide_eq_true hlt]
    rfl
  · rw [dec_nlt (by omega), decide_eq_false hlt]
    rfl
/-! ### as typed steps -/
noncomputable def cF (n : Nat) : Cod Unit where
  enc _ := .fn n []
  dec x := match x with
    | .fn f [] => Bool.rec (motive := fun _ => Option Unit) none (some ()) (Nat.beq f n)
    | _ => none
  grd _ := true
  ok x a h _ := by
    split at h
    · rename_i f
      cases hb : Nat.beq f n with
      | false => rw [hb] at h; cases h
      | true => rw [Nat.eq_of_beq_eq_true hb]; exact .of rfl
    · cases h
noncomputable def small (l : List Ent) : Bool := decide (l.length ≤ 1099511627776)
theorem small_le {l : List Ent} (h : small l = true) : l.length ≤ 1099511627776 := of_decide_eq_true h
/-- ContainsFunc of bad -/
noncomputable def p29a (l : List Ent) (_ : Unit) : Bool := l.any p30
noncomputable def g29a (l : List Ent) (_ : Unit) : Bool := small l
noncomputable def S29a : Sum := sum2 cEL (cF 30) fun l k => .guard (g29a l k) (.ret (b (p29a l k), []))
theorem grd_some {g : Bool} {x : AVal} {r : AVal × List ABlk} (h : (DT.guard g (.ret (x, [])) : DT (AVal × List ABlk)).run = some r) : g = true ∧ r = (x, []) := by
  rw [run_grd] at h
  cases g with
  | false => cases h
  | true => cases h; exact ⟨rfl, rfl⟩
theorem ok29a : FnOk Try.prog G 29 S29a := sum2_ok ok29u fun l k r h => by
  obtain ⟨h1, rfl⟩ := grd_some h
  have e := any29 l (by have := small_le h1; omega)
  show (ko29 ⟨l.length, fun k => rE (gE l k)⟩ (p29u ⟨l.length, fun k => rE (gE l k)⟩)).run = _
  rw [e]
  rfl
noncomputable def p34t (l : List Ent) (u : Ent) (_ : Unit) : Int × Bool := (ix l u, hasK l (ix l u) u)
noncomputable def g34t (l : List Ent) (_ : Ent) (_ : Unit) : Bool := small l && srt l
noncomputable def S34t : Sum := sum3 cEL cN (cF 31) fun l u k => .guard (g34t l u k) (.ret (.tup [i (p34t l u k).1, b (p34t l u k).2], []))
theorem ok34t : FnOk Try.prog G 34 S34t := sum3_ok ok34u fun l u k r h => by
  obtain ⟨h1, rfl⟩ := grd_some h
  unfold g34t at h1
  rw [Bool.and_eq_true] at h1
  have e := bs34 l u (by have := small_le h1.1; omega) h1.2
  show (ko34 ⟨l.length, fun k => rE (gE l k), u.t, u.o, u.l, u.h⟩ (p34u ⟨l.length, fun k => rE (gE l k), u.t, u.o, u.l, u.h⟩)).run = _
  rw [e]
  rfl
theorem sum1_le {α : Type} {f : Nat} {c : Cod α} {k k' : α → DT (AVal × List ABlk)} (h : FnOk Try.prog G f (sum1 c k)) (hk : ∀ a r, (k' a).run = some r → (k a).run = some r) : FnOk Try.prog G f (sum1 c k') := h.refine fun args blks r hr => ⟨args, ALes.refl _, by
  unfold sum1 at hr ⊢
  split at hr
  · obtain ⟨a, h1, hr⟩ := onO_some hr
    obtain ⟨g1, hr⟩ := DT.run_guard_some hr
    simp only [h1, onO, g1]
    exact hk a r hr
  · cases hr⟩
/-- Check, either way -/
noncomputable def pC (l : List Ent) : Int := chk l
noncomputable def gC (l : List Ent) : Bool := small l
noncomputable def SC : Sum := sum1 cEL fun l => .guard (gC l) (.ret (i (pC l), []))
theorem conv1 {f : Nat} {p : List Ent → Int} {g : List Ent → Bool} (hp : ∀ l, l.length ≤ 1099511627776 → p l = chk l ∧ g l = true) (h : FnOk Try.prog G f (sum1 cEL fun l => .guard (g l) (.ret (i (p l), [])))) : FnOk Try.prog G f SC := sum1_le h fun l r hr => by
  obtain ⟨h1, rfl⟩ := grd_some hr
  obtain ⟨e1, e2⟩ := hp l (small_le h1)
  rw [e1, e2]
  rfl
/-! ### the ways in which a list can be handed in -/
noncomputable def cCL : Cod (Ent × List Ent) where
  enc z := cEL.enc (z.1 :: z.2)
  dec x := match x with
    | .tree e (n + 1) get => match cEL.dec (.tree e (n + 1) get) with
      | some (a :: l) => some (a, l)
      | _ => none
    | _ => none
  grd x := cEL.grd x
  ok x z hx hg := by
    split at hx
    · split at hx
      · rename_i h
        cases hx
        exact cEL.ok _ _ h hg
      · cases hx
    · cases hx
noncomputable def cNil : Cod Unit := exactCod fun _ => .v (.slice none 0 0)
noncomputable def cE0 : Cod (Addr × Nat) := exactCod fun z => .v (.slice (some z.1) 0 z.2)
@[reducible] noncomputable def SC12 : Sum := SC
@[reducible] noncomputable def SC13 : Sum := SC
theorem okC12 : FnOk Try.prog G 12 SC12 := conv1 (fun l h => chk12 l (by omega)) ok12
theorem okC13 : FnOk Try.prog G 13 SC13 := conv1 (fun l h => chk13 l (by omega)) ok13
end Go.Ev.W.X
