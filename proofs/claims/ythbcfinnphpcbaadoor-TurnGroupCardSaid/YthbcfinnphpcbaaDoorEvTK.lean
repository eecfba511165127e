/- TurnGroup by brute force over the indices (own work). -/
import Derived.Test.YthbcfinnphpcbaaDoorEvTJ
set_option linter.unusedVariables false
set_option linter.unusedSimpArgs false
set_option linter.unnecessarySimpa false
set_option linter.unusedSectionVars false
namespace Go.Ev.T
open Go Go.Ev Go.Proofs
set_option maxRecDepth 100000
theorem grp4 : ((List.range 3).all fun a => (List.range 24).all fun c => p6 ⟨(12 + a : Nat), c⟩ && g6 ⟨(12 + a : Nat), c⟩) = true := by kernel_rfl
theorem grp5 : ((List.range 3).all fun a => (List.range 24).all fun c => p6 ⟨(15 + a : Nat), c⟩ && g6 ⟨(15 + a : Nat), c⟩) = true := by kernel_rfl
theorem grp6 : ((List.range 3).all fun a => (List.range 24).all fun c => p6 ⟨(18 + a : Nat), c⟩ && g6 ⟨(18 + a : Nat), c⟩) = true := by kernel_rfl
theorem grp7 : ((List.range 3).all fun a => (List.range 24).all fun c => p6 ⟨(21 + a : Nat), c⟩ && g6 ⟨(21 + a : Nat), c⟩) = true := by kernel_rfl
end Go.Ev.T
