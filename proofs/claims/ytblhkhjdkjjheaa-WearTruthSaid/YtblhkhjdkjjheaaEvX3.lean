/- Binary search, and ContainsFunc, as typed steps (own work). -/
import Derived.Test.YtblhkhjdkjjheaaEvX2
set_option linter.unusedVariables false
set_option linter.unusedSimpArgs false
set_option linter.unnecessarySimpa false
set_option linter.unusedSectionVars false
namespace Go.Ev.W.X
open Go Go.Ev Go.Ev.W Go.Proofs
set_option maxRecDepth 100000
theorem lt_trans {a c e : Ent} (h1 : p33 a c = true) (h2 : p33 c e = true) : p33 a e = true := by
  rw [lt_iff] at *; omega
theorem srtF_all : ∀ {l : List Ent} {a : Ent}, srtF a l = true → ∀ x ∈ l, p33 a x = true
  | [], a, h, x, hx => by simp at hx
  | c :: l, a, h, x, hx => by
    have h : (p33 a c && srtF c l) = true := h
    rw [Bool.and_eq_true] at h
    rcases List.mem_cons.1 hx with rfl | hx
    · exact h.1
    · exact lt_trans h.1 (srtF_all h.2 x hx)
theorem srt_tail {a : Ent} : ∀ {l : List Ent}, srt (a :: l) = true → srt l = true
  | [], h => rfl
  | c :: l, h => by
    have h : (p33 a c && srtF c l) = true := h
    rw [Bool.and_eq_true] at h
    exact h.2
/-! ### as typed steps -/
noncomputable def cF (n : Nat) : Cod Unit where
  enc _ := .fn n []
  dec x := match x with
    | .fn f [] => Bool.rec (motive := fun _ => Option Unit) none (some ()) (Nat.beq f n)
    | _ => none
  grd _ := true
  ok x a h _ := by
    split at h
    · rename_i f
      cases hb : Nat.beq f n with
      | false => rw [hb] at h; cases h
      | true => rw [Nat.eq_of_beq_eq_true hb]; exact .of rfl
    · cases h
noncomputable def small (l : List Ent) : Bool := decide (l.length ≤ 1099511627776)
theorem small_le {l : List Ent} (h : small l = true) : l.length ≤ 1099511627776 := of_decide_eq_true h
theorem grd_some {g : Bool} {x : AVal} {r : AVal × List ABlk} (h : (DT.guard g (.ret (x, [])) : DT (AVal × List ABlk)).run = some r) : g = true ∧ r = (x, []) := by
  rw [run_grd] at h
  cases g with
  | false => cases h
  | true => cases h; exact ⟨rfl, rfl⟩
theorem sum1_le {α : Type} {f : Nat} {c : Cod α} {k k' : α → DT (AVal × List ABlk)} (h : FnOk Try.prog G f (sum1 c k)) (hk : ∀ a r, (k' a).run = some r → (k a).run = some r) : FnOk Try.prog G f (sum1 c k') := h.refine fun args blks r hr => ⟨args, ALes.refl _, by
  unfold sum1 at hr ⊢
  split at hr
  · obtain ⟨a, h1, hr⟩ := onO_some hr
    obtain ⟨g1, hr⟩ := DT.run_guard_some hr
    simp only [h1, onO, g1]
    exact hk a r hr
  · cases hr⟩
/-- Check, either way -/
noncomputable def pC (l : List Ent) : Int := chk l
noncomputable def gC (l : List Ent) : Bool := small l
noncomputable def SC : Sum := sum1 cEL fun l => .guard (gC l) (.ret (i (pC l), []))
theorem conv1 {f : Nat} {p : List Ent → Int} {g : List Ent → Bool} (hp : ∀ l, l.length ≤ 1099511627776 → p l = chk l ∧ g l = true) (h : FnOk Try.prog G f (sum1 cEL fun l => .guard (g l) (.ret (i (p l), [])))) : FnOk Try.prog G f SC := sum1_le h fun l r hr => by
  obtain ⟨h1, rfl⟩ := grd_some hr
  obtain ⟨e1, e2⟩ := hp l (small_le h1)
  rw [e1, e2]
  rfl
@[reducible] noncomputable def SC12 : Sum := SC
@[reducible] noncomputable def SC13 : Sum := SC
theorem okC12 : FnOk Try.prog G 12 SC12 := conv1 (fun l h => chk12 l (by omega)) ok12
theorem okC13 : FnOk Try.prog G 13 SC13 := conv1 (fun l h => chk13 l (by omega)) ok13
end Go.Ev.W.X

