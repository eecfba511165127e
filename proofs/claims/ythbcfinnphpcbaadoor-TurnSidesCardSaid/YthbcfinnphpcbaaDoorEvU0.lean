/- Lists of planes and lists of lists of numbers, in and out of abstract values (own work). -/
import Derived.Test.YthbcfinnphpcbaaDoorEvLp
import Derived.Test.YthbcfinnphpcbaaDoorEvT7
set_option linter.unusedVariables false
set_option linter.unusedSimpArgs false
set_option linter.unnecessarySimpa false
set_option linter.unusedSectionVars false
namespace Go.Ev.T
open Go Go.Ev Go.Proofs
@[reducible] noncomputable def gP (l : List Pln) (k : Nat) : Pln := l.getD k ⟨⟨0, 0, 0⟩, 0⟩
@[reducible] def rP (x : Pln) : List AVal := [i x.n.x, i x.n.y, i x.n.z, i x.b]
def isP : List AVal → Bool
  | [.v (.int .i64 _), .v (.int .i64 _), .v (.int .i64 _), .v (.int .i64 _)] => true
  | _ => false
noncomputable def dRP (r : List AVal) : Pln := ⟨⟨toI (hdA r), toI (hdA (tlA r)), toI (hdA (tlA (tlA r)))⟩, toI (hdA (tlA (tlA (tlA r))))⟩
theorem isP_eq {r : List AVal} (h : isP r = true) : r = rP (dRP r) := by
  unfold isP at h
  split at h
  · rfl
  · cases h
@[reducible] noncomputable def okPs (n : Nat) (get : Nat → List AVal) : Bool := okRows isP n get
@[reducible] noncomputable def lsP (n : Nat) (get : Nat → List AVal) : List Pln := lsRows dRP n get
noncomputable def cPL : Cod (List Pln) := listCod 4 rP isP dRP ⟨⟨0, 0, 0⟩, 0⟩ fun _ h => isP_eq h
@[reducible] noncomputable def ePL (l : List Pln) : AVal := .tree 4 l.length (fun k => rP (gP l k))
@[reducible] noncomputable def gJ (l : List IL) (k : Nat) : IL := l.getD k ⟨0, fun _ => 0⟩
@[reducible] def rJ (x : IL) : List AVal := [eIL x]
@[reducible] noncomputable def eJL (l : List IL) : AVal := .tree 1 l.length (fun k => rJ (gJ l k))
theorem jagL {ρ : Rho} {H : List ABlk} {F : Fz} {w : World} {n : Nat} {m : Nat → Nat} {g : Nat → Nat → Int} {v : Value} (h : VRel ρ H F w (.tree 1 n fun j => [.tree 1 (m j) fun q => [.v (.int .i64 (g j q))]]) v) : ∃ l : List IL, VRel ρ H F w (eJL l) v := by
  refine ⟨(List.range n).map fun j => ⟨m j, g j⟩, ?_⟩
  have e : ((List.range n).map fun j => (⟨m j, g j⟩ : IL)).length = n := by simp
  show VRel ρ H F w (.tree 1 _ _) v
  rw [e]
  refine VRel.treeLe (fun k hk => ?_) h
  simp [gJ, List.getD_eq_getElem?_getD, List.getElem?_range hk]
noncomputable def cJL : Cod (List IL) := exactCod eJL
end Go.Ev.T
