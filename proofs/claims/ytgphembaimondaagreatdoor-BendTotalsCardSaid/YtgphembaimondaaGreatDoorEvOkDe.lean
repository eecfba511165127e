/- Own work. -/
import Derived.Test.YtgphembaimondaaGreatDoorEvOkD0
set_option linter.all false
namespace Go.Ev.Ce
open Go Go.Ev Go.Ev.L Go.Proofs
set_option maxRecDepth 1000000
theorem Nf8:(id6 [(N0 tV).enc [⟨2,0,0⟩,⟨2,0,2⟩,⟨2,2,0⟩,⟨2,2,2⟩,⟨5,0,0⟩,⟨5,0,2⟩,⟨5,2,0⟩,⟨5,2,2⟩]] []).run=some (.tup [i 72,i 0],[]):=by kernel_rfl
theorem Nf9:(id6 [(N0 tV).enc [⟨3,0,0⟩,⟨3,0,2⟩,⟨3,2,0⟩,⟨3,2,2⟩,⟨6,0,0⟩,⟨6,0,2⟩,⟨6,2,0⟩,⟨6,2,2⟩]] []).run=some (.tup [i 72,i 0],[]):=by kernel_rfl
theorem Of0:(id6 [(N0 tV).enc [⟨4,0,0⟩,⟨4,0,2⟩,⟨4,2,0⟩,⟨4,2,2⟩,⟨7,0,0⟩,⟨7,0,2⟩,⟨7,2,0⟩,⟨7,2,2⟩]] []).run=some (.tup [i 72,i 0],[]):=by kernel_rfl
theorem Of1:(id6 [(N0 tV).enc [⟨5,0,0⟩,⟨5,0,2⟩,⟨5,2,0⟩,⟨5,2,2⟩,⟨8,0,0⟩,⟨8,0,2⟩,⟨8,2,0⟩,⟨8,2,2⟩]] []).run=some (.tup [i 72,i 0],[]):=by kernel_rfl
end Go.Ev.Ce
