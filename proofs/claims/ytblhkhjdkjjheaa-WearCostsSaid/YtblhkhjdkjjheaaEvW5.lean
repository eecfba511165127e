/- Arguments of the wear chapter (own work). -/
import Derived.Test.YtblhkhjdkjjheaaEvLaw
import Derived.Test.YtblhkhjdkjjheaaEvW1
set_option linter.unusedVariables false
set_option linter.unusedSimpArgs false
set_option linter.unnecessarySimpa false
set_option linter.unusedSectionVars false
namespace Go.Ev.W
open Go Go.Ev Go.ChangeShapes Go.RowKit
theorem arg_u8 {D : Type} {enc : TypeId × Value → D} {P : Program} {w : World} {base : Nat} {spare : Nat → Bool} {held : Bool} {ρ : Rho} {H : List ABlk} {F : Fz} {t e : TypeId} {d : Nat} {v : Value} {dd : DataW D} {pp : List MemPlace} {bs : Nat} {r : Reach}
    (ht : P.underlying t = some (.array 2 e)) (he : P.underlying e = some (.int .u8)) (hts : P.cellTypes P.depth t = some [e, e]) (hf : flatE P d t = some (isInts .u8 2)) (hes : P.cellsOf t = 2)
    (hok : Value.okWide P w r bs t v) (h : DataW.Trod enc P w base spare held t v dd pp) : ∃ g : Nat → Int, (∀ c, c < 2 → 0 ≤ g c ∧ g c ≤ 255) ∧ VRel ρ H F w (.agg (intRow .u8 2 g)) v := by
  obtain ⟨g, hv⟩ := arg_agg (ρ := ρ) (H := H) (F := F) (by simp [agT, ht]) hf hes hok h
  refine ⟨g, fun c hc => ?_, hv⟩
  obtain ⟨vs, e0, hl, hr⟩ := inv_agg (.val hv)
  subst e0
  have hlen : vs.size = 2 := by rw [← hl]; simp [intRow]
  have hc' : c < vs.size := by omega
  have hg : (intRow .u8 2 g)[c]? = some (.v (.int .u8 (g c))) := by
    unfold intRow
    rw [List.getElem?_map, List.getElem?_range hc]
    rfl
  have hx := inv_v (.val (.cell (hr c _ _ hg (Array.getElem?_eq_getElem hc'))))
  unfold Value.okWide at hok
  rw [ht] at hok
  obtain ⟨cs, e1, hsz, ts, h1, h2, h3⟩ := hok
  injection e1 with e1
  subst e1
  rw [hts] at h1
  injection h1 with h1
  subst h1
  obtain ⟨u, hu, hcell⟩ := h3 c _ (Array.getElem?_eq_getElem hc')
  rw [hx] at hcell
  have hue : u = e := by
    have : c = 0 ∨ c = 1 := by omega
    rcases this with rfl | rfl <;> simpa using hu.symm
  subst hue
  simp only [Cell.okWide, Cell.ok, he] at hcell
  have := hcell.2
  simp only [IntKind.has, IntKind.min, IntKind.max, IntKind.bits, IntKind.signed] at this
  simp at this
  omega
theorem arg_u16 {D : Type} {enc : TypeId × Value → D} {P : Program} {w : World} {base : Nat} {spare : Nat → Bool} {held : Bool} {ρ : Rho} {H : List ABlk} {F : Fz} {t e : TypeId} {d : Nat} {v : Value} {dd : DataW D} {pp : List MemPlace} {bs : Nat} {r : Reach}
    (ht : P.underlying t = some (.array 2 e)) (he : P.underlying e = some (.int .u16)) (hts : P.cellTypes P.depth t = some [e, e]) (hf : flatE P d t = some (isInts .u16 2)) (hes : P.cellsOf t = 2)
    (hok : Value.okWide P w r bs t v) (h : DataW.Trod enc P w base spare held t v dd pp) : ∃ g : Nat → Int, (∀ c, c < 2 → 0 ≤ g c ∧ g c ≤ 65535) ∧ VRel ρ H F w (.agg (intRow .u16 2 g)) v := by
  obtain ⟨g, hv⟩ := arg_agg (ρ := ρ) (H := H) (F := F) (by simp [agT, ht]) hf hes hok h
  refine ⟨g, fun c hc => ?_, hv⟩
  obtain ⟨vs, e0, hl, hr⟩ := inv_agg (.val hv)
  subst e0
  have hlen : vs.size = 2 := by rw [← hl]; simp [intRow]
  have hc' : c < vs.size := by omega
  have hg : (intRow .u16 2 g)[c]? = some (.v (.int .u16 (g c))) := by
    unfold intRow
    rw [List.getElem?_map, List.getElem?_range hc]
    rfl
  have hx := inv_v (.val (.cell (hr c _ _ hg (Array.getElem?_eq_getElem hc'))))
  unfold Value.okWide at hok
  rw [ht] at hok
  obtain ⟨cs, e1, hsz, ts, h1, h2, h3⟩ := hok
  injection e1 with e1
  subst e1
  rw [hts] at h1
  injection h1 with h1
  subst h1
  obtain ⟨u, hu, hcell⟩ := h3 c _ (Array.getElem?_eq_getElem hc')
  rw [hx] at hcell
  have hue : u = e := by
    have : c = 0 ∨ c = 1 := by omega
    rcases this with rfl | rfl <;> simpa using hu.symm
  subst hue
  simp only [Cell.okWide, Cell.ok, he] at hcell
  have := hcell.2
  simp only [IntKind.has, IntKind.min, IntKind.max, IntKind.bits, IntKind.signed] at this
  simp at this
  omega
end Go.Ev.W
