/- TurnGroup by brute force over the indices (own work). -/
import Derived.Test.YthbcfinnphpcbaaDoorEvTG
set_option linter.unusedVariables false
set_option linter.unusedSimpArgs false
set_option linter.unnecessarySimpa false
set_option linter.unusedSectionVars false
namespace Go.Ev.T
open Go Go.Ev Go.Proofs
set_option maxRecDepth 100000
theorem grp0 : ((List.range 3).all fun a => (List.range 24).all fun c => p6 ⟨(0 + a : Nat), c⟩ && g6 ⟨(0 + a : Nat), c⟩) = true := by kernel_rfl
theorem grp1 : ((List.range 3).all fun a => (List.range 24).all fun c => p6 ⟨(3 + a : Nat), c⟩ && g6 ⟨(3 + a : Nat), c⟩) = true := by kernel_rfl
theorem grp2 : ((List.range 3).all fun a => (List.range 24).all fun c => p6 ⟨(6 + a : Nat), c⟩ && g6 ⟨(6 + a : Nat), c⟩) = true := by kernel_rfl
theorem grp3 : ((List.range 3).all fun a => (List.range 24).all fun c => p6 ⟨(9 + a : Nat), c⟩ && g6 ⟨(9 + a : Nat), c⟩) = true := by kernel_rfl
end Go.Ev.T
