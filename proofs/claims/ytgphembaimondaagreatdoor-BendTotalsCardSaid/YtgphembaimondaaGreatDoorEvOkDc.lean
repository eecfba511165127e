/- Own work. -/
import Derived.Test.YtgphembaimondaaGreatDoorEvOkD0
set_option linter.all false
noncomputable section
namespace Go.Ev.Ce
open Go Go.Ev Go.Ev.L Go.Proofs
set_option maxRecDepth 1000000
theorem Mf9:Hd3 [⟨0,0,0⟩,⟨1,0,0⟩]=some ((two (r1L tV) r1I).enc ([⟨0,0,0⟩,⟨0,0,2⟩,⟨0,2,0⟩,⟨0,2,2⟩,⟨3,0,0⟩,⟨3,0,2⟩,⟨3,2,0⟩,⟨3,2,2⟩],0),[]):=by kernel_rfl
theorem Nf0:Hd3 [⟨1,0,0⟩,⟨2,0,0⟩]=some ((two (r1L tV) r1I).enc ([⟨1,0,0⟩,⟨1,0,2⟩,⟨1,2,0⟩,⟨1,2,2⟩,⟨4,0,0⟩,⟨4,0,2⟩,⟨4,2,0⟩,⟨4,2,2⟩],0),[]):=by kernel_rfl
theorem Nf1:Hd3 [⟨2,0,0⟩,⟨3,0,0⟩]=some ((two (r1L tV) r1I).enc ([⟨2,0,0⟩,⟨2,0,2⟩,⟨2,2,0⟩,⟨2,2,2⟩,⟨5,0,0⟩,⟨5,0,2⟩,⟨5,2,0⟩,⟨5,2,2⟩],0),[]):=by kernel_rfl
theorem Nf2:Hd3 [⟨3,0,0⟩,⟨4,0,0⟩]=some ((two (r1L tV) r1I).enc ([⟨3,0,0⟩,⟨3,0,2⟩,⟨3,2,0⟩,⟨3,2,2⟩,⟨6,0,0⟩,⟨6,0,2⟩,⟨6,2,0⟩,⟨6,2,2⟩],0),[]):=by kernel_rfl
theorem Nf3:Hd3 [⟨4,0,0⟩,⟨5,0,0⟩]=some ((two (r1L tV) r1I).enc ([⟨4,0,0⟩,⟨4,0,2⟩,⟨4,2,0⟩,⟨4,2,2⟩,⟨7,0,0⟩,⟨7,0,2⟩,⟨7,2,0⟩,⟨7,2,2⟩],0),[]):=by kernel_rfl
theorem Nf4:Hd3 [⟨5,0,0⟩,⟨6,0,0⟩]=some ((two (r1L tV) r1I).enc ([⟨5,0,0⟩,⟨5,0,2⟩,⟨5,2,0⟩,⟨5,2,2⟩,⟨8,0,0⟩,⟨8,0,2⟩,⟨8,2,0⟩,⟨8,2,2⟩],0),[]):=by kernel_rfl
end Go.Ev.Ce
