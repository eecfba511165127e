/- Every function by its body, to a depth (own work). -/
import Derived.Test.YtblhkhjdkjjheaaEvDraw1
set_option linter.unusedVariables false
set_option linter.unusedSimpArgs false
set_option linter.unnecessarySimpa false
set_option linter.unusedSectionVars false
namespace Go.Ev
open Go

end Go.Ev

