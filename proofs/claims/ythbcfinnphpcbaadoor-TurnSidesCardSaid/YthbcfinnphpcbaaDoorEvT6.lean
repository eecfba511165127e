/- Printed: functions of the geometry chapters, as plain ones (own work). -/
import Derived.Test.YthbcfinnphpcbaaDoorEvT5
set_option linter.unusedVariables false
set_option linter.unusedSimpArgs false
set_option linter.unnecessarySimpa false
set_option linter.unusedSectionVars false
namespace Go.Ev.T
open Go Go.Ev Go.Ev.Ab Go.Proofs
set_option maxRecDepth 100000
noncomputable def tab14_0 : List (List AVal) := [[(i (-1)), (i 0), (i 0), (i 0), (i (-1)), (i 0), (i 0), (i 0), (i 1), (i 1)],
 [(i (-1)), (i 0), (i 0), (i 0), (i 0), (i (-1)), (i 0), (i (-1)), (i 0), (i 1)],
 [(i (-1)), (i 0), (i 0), (i 0), (i 0), (i 1), (i 0), (i 1), (i 0), (i 1)],
 [(i (-1)), (i 0), (i 0), (i 0), (i 1), (i 0), (i 0), (i 0), (i (-1)), (i 1)],
 [(i 0), (i (-1)), (i 0), (i (-1)), (i 0), (i 0), (i 0), (i 0), (i (-1)), (i 1)],
 [(i 0), (i (-1)), (i 0), (i 0), (i 0), (i (-1)), (i 1), (i 0), (i 0), (i 1)],
 [(i 0), (i (-1)), (i 0), (i 0), (i 0), (i 1), (i (-1)), (i 0), (i 0), (i 1)],
 [(i 0), (i (-1)), (i 0), (i 1), (i 0), (i 0), (i 0), (i 0), (i 1), (i 1)],
 [(i 0), (i 0), (i (-1)), (i (-1)), (i 0), (i 0), (i 0), (i 1), (i 0), (i 1)],
 [(i 0), (i 0), (i (-1)), (i 0), (i (-1)), (i 0), (i (-1)), (i 0), (i 0), (i 1)],
 [(i 0), (i 0), (i (-1)), (i 0), (i 1), (i 0), (i 1), (i 0), (i 0), (i 1)],
 [(i 0), (i 0), (i (-1)), (i 1), (i 0), (i 0), (i 0), (i (-1)), (i 0), (i 1)],
 [(i 0), (i 0), (i 1), (i (-1)), (i 0), (i 0), (i 0), (i (-1)), (i 0), (i 1)],
 [(i 0), (i 0), (i 1), (i 0), (i (-1)), (i 0), (i 1), (i 0), (i 0), (i 1)],
 [(i 0), (i 0), (i 1), (i 0), (i 1), (i 0), (i (-1)), (i 0), (i 0), (i 1)],
 [(i 0), (i 0), (i 1), (i 1), (i 0), (i 0), (i 0), (i 1), (i 0), (i 1)],
 [(i 0), (i 1), (i 0), (i (-1)), (i 0), (i 0), (i 0), (i 0), (i 1), (i 1)],
 [(i 0), (i 1), (i 0), (i 0), (i 0), (i (-1)), (i (-1)), (i 0), (i 0), (i 1)],
 [(i 0), (i 1), (i 0), (i 0), (i 0), (i 1), (i 1), (i 0), (i 0), (i 1)],
 [(i 0), (i 1), (i 0), (i 1), (i 0), (i 0), (i 0), (i 0), (i (-1)), (i 1)],
 [(i 1), (i 0), (i 0), (i 0), (i (-1)), (i 0), (i 0), (i 0), (i (-1)), (i 1)],
 [(i 1), (i 0), (i 0), (i 0), (i 0), (i (-1)), (i 0), (i 1), (i 0), (i 1)],
 [(i 1), (i 0), (i 0), (i 0), (i 0), (i 1), (i 0), (i (-1)), (i 0), (i 1)],
 [(i 1), (i 0), (i 0), (i 0), (i 1), (i 0), (i 0), (i 0), (i 1), (i 1)]]
noncomputable def tb14 : List (Nat × Sum) := [(53, S53), (54, S54), (55, S55)]
theorem tbo14 : TblOk Tryd.prog G tb14 := ⟨ok53, ok54, ok55, trivial⟩
theorem r14 : (runFn (En tb14) pf14 [] []).run = some ((.sl 0 0 24 0), [⟨27, 10, tab14_0, true, false, 0⟩]) := by kernel_rfl
noncomputable def S14 : Sum := sum0 (.ret ((.sl 0 0 24 0), [⟨27, 10, tab14_0, true, false, 0⟩]))
theorem ok14 : FnOk Tryd.prog G 14 S14 := sum0_ok (b14 (E := En tb14) rfl (tdeps tbo14)) fun r h => r14.trans h
noncomputable def tab15_0 : List (List AVal) := [[(i (-1)), (i 0), (i 0), (i 0), (i (-1)), (i 0), (i 0), (i 0), (i 1), (i 1)],
 [(i (-1)), (i 0), (i 0), (i 0), (i 0), (i (-1)), (i 0), (i (-1)), (i 0), (i 1)],
 [(i (-1)), (i 0), (i 0), (i 0), (i 0), (i 1), (i 0), (i 1), (i 0), (i 1)],
 [(i (-1)), (i 0), (i 0), (i 0), (i 1), (i 0), (i 0), (i 0), (i (-1)), (i 1)],
 [(i 0), (i (-1)), (i 0), (i (-1)), (i 0), (i 0), (i 0), (i 0), (i (-1)), (i 1)],
 [(i 0), (i (-1)), (i 0), (i 0), (i 0), (i (-1)), (i 1), (i 0), (i 0), (i 1)],
 [(i 0), (i (-1)), (i 0), (i 0), (i 0), (i 1), (i (-1)), (i 0), (i 0), (i 1)],
 [(i 0), (i (-1)), (i 0), (i 1), (i 0), (i 0), (i 0), (i 0), (i 1), (i 1)],
 [(i 0), (i 0), (i (-1)), (i (-1)), (i 0), (i 0), (i 0), (i 1), (i 0), (i 1)],
 [(i 0), (i 0), (i (-1)), (i 0), (i (-1)), (i 0), (i (-1)), (i 0), (i 0), (i 1)],
 [(i 0), (i 0), (i (-1)), (i 0), (i 1), (i 0), (i 1), (i 0), (i 0), (i 1)],
 [(i 0), (i 0), (i (-1)), (i 1), (i 0), (i 0), (i 0), (i (-1)), (i 0), (i 1)],
 [(i 0), (i 0), (i 1), (i (-1)), (i 0), (i 0), (i 0), (i (-1)), (i 0), (i 1)],
 [(i 0), (i 0), (i 1), (i 0), (i (-1)), (i 0), (i 1), (i 0), (i 0), (i 1)],
 [(i 0), (i 0), (i 1), (i 0), (i 1), (i 0), (i (-1)), (i 0), (i 0), (i 1)],
 [(i 0), (i 0), (i 1), (i 1), (i 0), (i 0), (i 0), (i 1), (i 0), (i 1)],
 [(i 0), (i 1), (i 0), (i (-1)), (i 0), (i 0), (i 0), (i 0), (i 1), (i 1)],
 [(i 0), (i 1), (i 0), (i 0), (i 0), (i (-1)), (i (-1)), (i 0), (i 0), (i 1)],
 [(i 0), (i 1), (i 0), (i 0), (i 0), (i 1), (i 1), (i 0), (i 0), (i 1)],
 [(i 0), (i 1), (i 0), (i 1), (i 0), (i 0), (i 0), (i 0), (i (-1)), (i 1)],
 [(i 1), (i 0), (i 0), (i 0), (i (-1)), (i 0), (i 0), (i 0), (i (-1)), (i 1)],
 [(i 1), (i 0), (i 0), (i 0), (i 0), (i (-1)), (i 0), (i 1), (i 0), (i 1)],
 [(i 1), (i 0), (i 0), (i 0), (i 0), (i 1), (i 0), (i (-1)), (i 0), (i 1)],
 [(i 1), (i 0), (i 0), (i 0), (i 1), (i 0), (i 0), (i 0), (i 1), (i 1)]]
noncomputable def tb15 : List (Nat × Sum) := [(50, S50), (51, S51), (13, S13)]
theorem tbo15 : TblOk Tryd.prog G tb15 := ⟨ok50, ok51, ok13, trivial⟩
theorem r15 : (runFn (En tb15) pf15 [] []).run = some ((.sl 0 0 24 0), [⟨27, 10, tab15_0, true, false, 0⟩]) := by kernel_rfl
noncomputable def S15 : Sum := sum0 (.ret ((.sl 0 0 24 0), [⟨27, 10, tab15_0, true, false, 0⟩]))
theorem ok15 : FnOk Tryd.prog G 15 S15 := sum0_ok (b15 (E := En tb15) rfl (tdeps tbo15)) fun r h => r15.trans h
noncomputable def tb9 : List (Nat × Sum) := [(16, S16), (36, S36), (12, S12), (18, S18), (22, S22), (28, S28), (20, S20), (37, S37), (38, S38), (14, S14)]
theorem tbo9 : TblOk Tryd.prog G tb9 := ⟨ok16, ok36, ok12, ok18, ok22, ok28, ok20, ok37, ok38, ok14, trivial⟩
theorem r9 : (runFn (En tb9) pf9 [] []).run = some ((b true), []) := by kernel_rfl
noncomputable def S9 : Sum := sum0 (.ret ((b true), []))
theorem ok9 : FnOk Tryd.prog G 9 S9 := sum0_ok (b9 (E := En tb9) rfl (tdeps tbo9)) fun r h => r9.trans h

end Go.Ev.T
