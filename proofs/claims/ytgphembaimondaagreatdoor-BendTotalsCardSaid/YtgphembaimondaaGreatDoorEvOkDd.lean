/- Own work. -/
import Derived.Test.YtgphembaimondaaGreatDoorEvOkD0
set_option linter.all false
namespace Go.Ev.Ce
open Go Go.Ev Go.Ev.L Go.Proofs
set_option maxRecDepth 1000000
theorem Nf5:(id6 [(N0 tV).enc [⟨0,0,0⟩,⟨2,0,0⟩,⟨0,2,0⟩,⟨2,2,0⟩,⟨0,0,2⟩,⟨2,0,2⟩,⟨0,2,2⟩,⟨2,2,2⟩]] []).run=some (.tup [i 48,i 0],[]):=by kernel_rfl
theorem Nf6:(id6 [(N0 tV).enc [⟨0,0,0⟩,⟨0,0,2⟩,⟨0,2,0⟩,⟨0,2,2⟩,⟨3,0,0⟩,⟨3,0,2⟩,⟨3,2,0⟩,⟨3,2,2⟩]] []).run=some (.tup [i 72,i 0],[]):=by kernel_rfl
theorem Nf7:(id6 [(N0 tV).enc [⟨1,0,0⟩,⟨1,0,2⟩,⟨1,2,0⟩,⟨1,2,2⟩,⟨4,0,0⟩,⟨4,0,2⟩,⟨4,2,0⟩,⟨4,2,2⟩]] []).run=some (.tup [i 72,i 0],[]):=by kernel_rfl
end Go.Ev.Ce
