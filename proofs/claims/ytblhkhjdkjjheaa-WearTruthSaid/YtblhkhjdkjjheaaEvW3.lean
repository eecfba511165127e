/- Printed: functions of the wear chapter, as plain ones (own work). -/
import Derived.Test.YtblhkhjdkjjheaaEvW2
set_option linter.unusedVariables false
set_option linter.unusedSimpArgs false
set_option linter.unnecessarySimpa false
set_option linter.unusedSectionVars false
namespace Go.Ev.W
open Go Go.Ev Go.Ev.Ab Go.Proofs
set_option maxRecDepth 100000
noncomputable def tb9 : List (Nat × Sum) := [(12, S12), (16, S16), (20, S20), (17, S17), (14, S14), (22, S22), (27, S27)]
theorem tbo9 : TblOk Try.prog G tb9 := ⟨ok12, ok16, ok20, ok17, ok14, ok22, ok27, trivial⟩
theorem r9 : (runFn (En tb9) pf9 [] []).run = some ((b true), []) := by kernel_rfl
noncomputable def S9 : Sum := sum0 (.ret ((b true), []))
theorem ok9 : FnOk Try.prog G 9 S9 := sum0_ok (b9 (E := En tb9) rfl (tdeps tbo9)) fun r h => r9.trans h

end Go.Ev.W

