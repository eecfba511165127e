/- TurnGroup, as a plain fact (own work). -/
import Derived.Test.YthbcfinnphpcbaaDoorEvTK
import Derived.Test.YthbcfinnphpcbaaDoorEvLaw
import Derived.Test.YthbcfinnphpcbaaDoorEvT8
set_option linter.unusedVariables false
set_option linter.unusedSimpArgs false
set_option linter.unnecessarySimpa false
set_option linter.unusedSectionVars false
namespace Go.Ev.T
open Go Go.Ev Go.Proofs
set_option maxRecDepth 100000
theorem grp_at {a c : Nat} (ha : a < 24) (hc : c < 24) : p6 ⟨(a : Nat), (c : Nat)⟩ = true ∧ g6 ⟨(a : Nat), (c : Nat)⟩ = true := by
  have key : ∀ k : Nat, ((List.range 3).all fun a => (List.range 24).all fun c => p6 ⟨(k + a : Nat), c⟩ && g6 ⟨(k + a : Nat), c⟩) = true → k ≤ a → a < k + 3 → p6 ⟨(a : Nat), (c : Nat)⟩ = true ∧ g6 ⟨(a : Nat), (c : Nat)⟩ = true := fun k h h1 h2 => by
    have h3 := List.all_eq_true.1 h (a - k) (by simp; omega)
    have h4 := List.all_eq_true.1 h3 c (by simpa using hc)
    rw [show k + (a - k) = a by omega] at h4
    simpa using h4
  have : a / 3 < 8 := by omega
  match h : a / 3, this with
  | 0, _ => exact key 0 grp0 (by omega) (by omega)
  | 1, _ => exact key 3 grp1 (by omega) (by omega)
  | 2, _ => exact key 6 grp2 (by omega) (by omega)
  | 3, _ => exact key 9 grp3 (by omega) (by omega)
  | 4, _ => exact key 12 grp4 (by omega) (by omega)
  | 5, _ => exact key 15 grp5 (by omega) (by omega)
  | 6, _ => exact key 18 grp6 (by omega) (by omega)
  | 7, _ => exact key 21 grp7 (by omega) (by omega)
theorem u8_mod {a : Int} (h : 0 ≤ a ∧ a ≤ 255) : 0 ≤ Int.tmod (W a) 24 ∧ Int.tmod (W a) 24 < 24 ∧ Int.tmod (W (Int.tmod (W a) 24)) 24 = Int.tmod (W a) 24 := by
  have h1 : 0 ≤ Int.tmod (W a) 24 := by rw [W_id (by omega) (by omega)]; exact Int.tmod_nonneg _ h.1
  have h2 : Int.tmod (W a) 24 < 24 := Int.tmod_lt_of_pos _ (by omega)
  refine ⟨h1, h2, ?_⟩
  generalize Int.tmod (W a) 24 = k at *
  rw [W_id (by omega) (by omega), Int.tmod_eq_of_lt h1 h2]
theorem law6 (a c : Int) (ha : 0 ≤ a ∧ a ≤ 255) (hc : 0 ≤ c ∧ c ≤ 255) : (S6 [cU.enc ⟨a, c⟩] []).run = some (b true, []) := by
  obtain ⟨a1, a2, a3⟩ := u8_mod ha
  obtain ⟨c1, c2, c3⟩ := u8_mod hc
  have e : (S6 [cU.enc ⟨a, c⟩] []).run = sel (g6 ⟨a, c⟩) (some (b (p6 ⟨a, c⟩), [])) none := by kernel_rfl
  have ep : p6 ⟨a, c⟩ = p6 ⟨Int.tmod (W a) 24, Int.tmod (W c) 24⟩ := by simp only [p6, a3, c3]
  have eg : g6 ⟨a, c⟩ = g6 ⟨Int.tmod (W a) 24, Int.tmod (W c) 24⟩ := by simp only [g6, a3, c3]
  rw [e, ep, eg]
  generalize Int.tmod (W a) 24 = k at *
  generalize Int.tmod (W c) 24 = m at *
  obtain ⟨h1, h2⟩ := grp_at (a := k.toNat) (c := m.toNat) (by omega) (by omega)
  rw [Int.toNat_of_nonneg a1, Int.toNat_of_nonneg c1] at h1 h2
  rw [h1, h2]

/-- an argument: two small numbers without sign -/
theorem arg_u8 {D : Type} {enc : TypeId × Value → D} {P : Program} {w : World} {base : Nat} {spare : Nat → Bool} {held : Bool} {ρ : Rho} {H : List ABlk} {F : Fz} {t e : TypeId} {d : Nat} {v : Value} {dd : DataW D} {pp : List MemPlace} {bs : Nat} {r : Reach}
    (ht : P.underlying t = some (.array 2 e)) (he : P.underlying e = some (.int .u8)) (hts : P.cellTypes P.depth t = some [e, e]) (hf : flatE P d t = some (isInts .u8 2)) (hes : P.cellsOf t = 2)
    (hok : Value.okWide P w r bs t v) (h : DataW.Trod enc P w base spare held t v dd pp) : ∃ g : Nat → Int, (∀ c, c < 2 → 0 ≤ g c ∧ g c ≤ 255) ∧ VRel ρ H F w (.agg (intRow .u8 2 g)) v := by
  obtain ⟨g, hv⟩ := arg_agg (ρ := ρ) (H := H) (F := F) (by simp [agT, ht]) hf hes hok h
  refine ⟨g, fun c hc => ?_, hv⟩
  obtain ⟨vs, e0, hl, hr⟩ := inv_agg (.val hv)
  subst e0
  have hlen : vs.size = 2 := by rw [← hl]; simp [intRow]
  have hc' : c < vs.size := by omega
  have hg : (intRow .u8 2 g)[c]? = some (.v (.int .u8 (g c))) := by
    unfold intRow
    rw [List.getElem?_map, List.getElem?_range hc]
    rfl
  have hx := inv_v (.val (.cell (hr c _ _ hg (Array.getElem?_eq_getElem hc'))))
  unfold Value.okWide at hok
  rw [ht] at hok
  obtain ⟨cs, e1, hsz, ts, h1, h2, h3⟩ := hok
  injection e1 with e1
  subst e1
  rw [hts] at h1
  injection h1 with h1
  subst h1
  obtain ⟨u, hu, hcell⟩ := h3 c _ (Array.getElem?_eq_getElem hc')
  rw [hx] at hcell
  have hue : u = e := by
    have : c = 0 ∨ c = 1 := by omega
    rcases this with rfl | rfl <;> simpa using hu.symm
  subst hue
  simp only [Cell.okWide, Cell.ok, he] at hcell
  have := hcell.2
  simp only [IntKind.has, IntKind.min, IntKind.max, IntKind.bits, IntKind.signed] at this
  simp at this
  omega
end Go.Ev.T
