/-
  No cell of these rows narrows 'for every input' (looked for: loops, veiled, ifaces, maps, wideKeys, modest, calm, conditions, laid).
  DERIVED. THE GIVEN ROWS OF THIS SEAT. 6 by the template 'for every input the law returns true; each argument reads behind the call as it read before'; 0 by the template 'total and deterministic' (their statements: YtblhkhjdkjjheaaTotals.lean).
  GIVEN WITH THE SEED: the statements are not yours to turn. If you find one false, say at which input.
  Laid BY PROGRAM, IN A SANDBOX (cutbox-rows.mjs): the forced cells as the released guide's own fill.sh prints them over the translation a077ec802b771918… (all of the seat's roots in one cut). By AI agents, Wed Nov 11 2026. No macro, syntax, notation, axiom, sorry.
-/
import Derived.Test.YtblhkhjdkjjheaaChecked
import GoSem.Claim
import GoSem.ClaimJoined
import GoSem.ClaimMapViews
import Derived.JoinedTies
import Derived.KernelRfl
namespace Go.Proofs.Ytblhkhjdkjjheaa
/- THE CELL 'sum', in the pinned program and in every row, IS THE sha256 OF THE DUMP (.gsa) THAT YtblhkhjdkjjheaaProg.lean LOADS. Nothing in Lean hashes anything: it is a label: what it is worth is what the hold of that sum in a sandbox is worth. -/
noncomputable def Try.pinned : Pinned := { name := "ytblhkhjdkjjheaa", sum := "a077ec802b7719189ac4c9b54b456693c3a8cdf371f991803cc3f1e9979f65c9", checked := Try.checked }
namespace Rows
def none {H : Type} : Left H := { results := [], args := [] }

/-- 'colletlaw23.WearForms': WHATEVER THE INPUT: true; the input reads as it did. -/
def wearFormsSpec : ChangeSpec := { name := "wearForms", fn := fun _ => fun
  | [d1, d2, d3, d4, d5] => { results := [.lit (.bool true)], args := [d1, d2, d3, d4, d5] }
  | _ => none }
def wearFormsRow : OpenClaim := { program := "ytblhkhjdkjjheaa", sum := "a077ec802b7719189ac4c9b54b456693c3a8cdf371f991803cc3f1e9979f65c9", func := "collet/colletlaw23.WearForms", spec := "wearForms", inPlace := ["slices.overlaps[collet/api.Use]"], unfollowed := true, recurses := true, apart := false }
def WearFormsSaid : Prop := wearFormsRow.holds Try.pinned (OpenSpec.ofChange wearFormsSpec)

/-- ITS FALSE NEIGHBOUR: 'it returns false'. Refute it at one input. -/
def wearFormsWrong : ChangeSpec := { name := "wearForms", fn := fun _ => fun
  | [d1, d2, d3, d4, d5] => { results := [.lit (.bool false)], args := [d1, d2, d3, d4, d5] }
  | _ => none }
def WearFormsWrongFalsely : Prop := wearFormsRow.holds Try.pinned (OpenSpec.ofChange wearFormsWrong)

/-- 'colletlaw23.WearSums': WHATEVER THE INPUT: true; the input reads as it did. -/
def wearSumsSpec : ChangeSpec := { name := "wearSums", fn := fun _ => fun
  | [d1, d2, d3, d4] => { results := [.lit (.bool true)], args := [d1, d2, d3, d4] }
  | _ => none }
def wearSumsRow : OpenClaim := { program := "ytblhkhjdkjjheaa", sum := "a077ec802b7719189ac4c9b54b456693c3a8cdf371f991803cc3f1e9979f65c9", func := "collet/colletlaw23.WearSums", spec := "wearSums", inPlace := ["slices.overlaps[collet/api.Use]"], unfollowed := true, recurses := true, apart := false }
def WearSumsSaid : Prop := wearSumsRow.holds Try.pinned (OpenSpec.ofChange wearSumsSpec)

/-- ITS FALSE NEIGHBOUR: 'it returns false'. Refute it at one input. -/
def wearSumsWrong : ChangeSpec := { name := "wearSums", fn := fun _ => fun
  | [d1, d2, d3, d4] => { results := [.lit (.bool false)], args := [d1, d2, d3, d4] }
  | _ => none }
def WearSumsWrongFalsely : Prop := wearSumsRow.holds Try.pinned (OpenSpec.ofChange wearSumsWrong)

/-- 'colletlaw23.WearTruth': WHATEVER THE INPUT: true; the input reads as it did. -/
def wearTruthSpec : ChangeSpec := { name := "wearTruth", fn := fun _ => fun
  | [d1, d2] => { results := [.lit (.bool true)], args := [d1, d2] }
  | _ => none }
def wearTruthRow : OpenClaim := { program := "ytblhkhjdkjjheaa", sum := "a077ec802b7719189ac4c9b54b456693c3a8cdf371f991803cc3f1e9979f65c9", func := "collet/colletlaw23.WearTruth", spec := "wearTruth", inPlace := ["slices.overlaps[collet/api.Use]"], unfollowed := true, recurses := true, apart := false }
def WearTruthSaid : Prop := wearTruthRow.holds Try.pinned (OpenSpec.ofChange wearTruthSpec)

/-- ITS FALSE NEIGHBOUR: 'it returns false'. Refute it at one input. -/
def wearTruthWrong : ChangeSpec := { name := "wearTruth", fn := fun _ => fun
  | [d1, d2] => { results := [.lit (.bool false)], args := [d1, d2] }
  | _ => none }
def WearTruthWrongFalsely : Prop := wearTruthRow.holds Try.pinned (OpenSpec.ofChange wearTruthWrong)

/-- 'colletlaw23.WearLattice': WHATEVER THE INPUT: true; the input reads as it did. -/
def wearLatticeSpec : ChangeSpec := { name := "wearLattice", fn := fun _ => fun
  | [d] => { results := [.lit (.bool true)], args := [d] }
  | _ => none }
def wearLatticeRow : OpenClaim := { program := "ytblhkhjdkjjheaa", sum := "a077ec802b7719189ac4c9b54b456693c3a8cdf371f991803cc3f1e9979f65c9", func := "collet/colletlaw23.WearLattice", spec := "wearLattice", inPlace := ["slices.overlaps[collet/api.Use]"], unfollowed := true, recurses := true, apart := false }
def WearLatticeSaid : Prop := wearLatticeRow.holds Try.pinned (OpenSpec.ofChange wearLatticeSpec)

/-- ITS FALSE NEIGHBOUR: 'it returns false'. Refute it at one input. -/
def wearLatticeWrong : ChangeSpec := { name := "wearLattice", fn := fun _ => fun
  | [d] => { results := [.lit (.bool false)], args := [d] }
  | _ => none }
def WearLatticeWrongFalsely : Prop := wearLatticeRow.holds Try.pinned (OpenSpec.ofChange wearLatticeWrong)

/-- 'colletlaw23.WearAdds': WHATEVER THE INPUT: true; the input reads as it did. -/
def wearAddsSpec : ChangeSpec := { name := "wearAdds", fn := fun _ => fun
  | [d1, d2, d3, d4] => { results := [.lit (.bool true)], args := [d1, d2, d3, d4] }
  | _ => none }
def wearAddsRow : OpenClaim := { program := "ytblhkhjdkjjheaa", sum := "a077ec802b7719189ac4c9b54b456693c3a8cdf371f991803cc3f1e9979f65c9", func := "collet/colletlaw23.WearAdds", spec := "wearAdds", inPlace := ["slices.overlaps[collet/api.Use]"], unfollowed := true, recurses := true, apart := false }
def WearAddsSaid : Prop := wearAddsRow.holds Try.pinned (OpenSpec.ofChange wearAddsSpec)

/-- ITS FALSE NEIGHBOUR: 'it returns false'. Refute it at one input. -/
def wearAddsWrong : ChangeSpec := { name := "wearAdds", fn := fun _ => fun
  | [d1, d2, d3, d4] => { results := [.lit (.bool false)], args := [d1, d2, d3, d4] }
  | _ => none }
def WearAddsWrongFalsely : Prop := wearAddsRow.holds Try.pinned (OpenSpec.ofChange wearAddsWrong)

/-- 'colletlaw23.WearCosts': WHATEVER THE INPUT: true; the input reads as it did. -/
def wearCostsSpec : ChangeSpec := { name := "wearCosts", fn := fun _ => fun
  | [d1, d2] => { results := [.lit (.bool true)], args := [d1, d2] }
  | _ => none }
def wearCostsRow : OpenClaim := { program := "ytblhkhjdkjjheaa", sum := "a077ec802b7719189ac4c9b54b456693c3a8cdf371f991803cc3f1e9979f65c9", func := "collet/colletlaw23.WearCosts", spec := "wearCosts", inPlace := ["slices.overlaps[collet/api.Use]"], unfollowed := true, recurses := true, apart := false }
def WearCostsSaid : Prop := wearCostsRow.holds Try.pinned (OpenSpec.ofChange wearCostsSpec)

/-- ITS FALSE NEIGHBOUR: 'it returns false'. Refute it at one input. -/
def wearCostsWrong : ChangeSpec := { name := "wearCosts", fn := fun _ => fun
  | [d1, d2] => { results := [.lit (.bool false)], args := [d1, d2] }
  | _ => none }
def WearCostsWrongFalsely : Prop := wearCostsRow.holds Try.pinned (OpenSpec.ofChange wearCostsWrong)

/- THE SECOND FORM. 'bulk': how many values and letters a reading holds, each counted each time it is reached (what is shared counts as often as it is met; a slice's spare places count too). A statement '..UptoSaid' is the law's where the arguments, and the package variables that the reading takes, are together of bulk at most 1048576: NARROWER than '..Said'. Prove '..Said' where nothing that the law and all that it calls make is longer than what came in: it says more and counts as full. Else prove '..UptoSaid'. A law counts once. -/
mutual
def uptoBulk {H : Type} : DataW H → Nat
  | .lit (.string bytes) => bytes.length + 1
  | .lit _ => 1
  | .nil => 1
  | .ptr d => uptoBulk d + 1
  | .slice elems spare => uptoBulkAll elems + uptoBulkAll spare + 1
  | .agg parts => uptoBulkAll parts + 1
  | .iface _ d => uptoBulk d + 1
  | .map entries => uptoBulkEntries entries + 1
  | .held _ => 1
def uptoBulkAll {H : Type} : List (DataW H) → Nat
  | [] => 0
  | d :: r => uptoBulk d + uptoBulkAll r
def uptoBulkEntries {H : Type} : List (Lit × DataW H) → Nat
  | [] => 0
  | x :: r => uptoBulkEntry x + uptoBulkEntries r
def uptoBulkEntry {H : Type} : Lit × DataW H → Nat
  | (.string bytes, d) => bytes.length + uptoBulk d + 1
  | (_, d) => uptoBulk d + 1
 end
def uptoSmall : (H : Type) → List (DataW H) → Bool := fun _ ds => decide (uptoBulkAll ds ≤ 1048576)
def OpenSpec.upto (s : _root_.Go.ChangeSpec) : _root_.Go.OpenSpec := { _root_.Go.OpenSpec.ofChange s with cond := some uptoSmall }

/-- 'colletlaw23.WearForms', WHERE WHAT IT READS IS OF BULK AT MOST 1048576: true; the input reads as it did. -/
def wearFormsUptoRow : OpenClaim := { program := "ytblhkhjdkjjheaa", sum := "a077ec802b7719189ac4c9b54b456693c3a8cdf371f991803cc3f1e9979f65c9", func := "collet/colletlaw23.WearForms", spec := "wearForms", inPlace := ["slices.overlaps[collet/api.Use]"], unfollowed := true, recurses := true, apart := false, narrowed := true }
def WearFormsUptoSaid : Prop := wearFormsUptoRow.holds Try.pinned (OpenSpec.upto wearFormsSpec)

/-- 'colletlaw23.WearSums', WHERE WHAT IT READS IS OF BULK AT MOST 1048576: true; the input reads as it did. -/
def wearSumsUptoRow : OpenClaim := { program := "ytblhkhjdkjjheaa", sum := "a077ec802b7719189ac4c9b54b456693c3a8cdf371f991803cc3f1e9979f65c9", func := "collet/colletlaw23.WearSums", spec := "wearSums", inPlace := ["slices.overlaps[collet/api.Use]"], unfollowed := true, recurses := true, apart := false, narrowed := true }
def WearSumsUptoSaid : Prop := wearSumsUptoRow.holds Try.pinned (OpenSpec.upto wearSumsSpec)

/-- 'colletlaw23.WearTruth', WHERE WHAT IT READS IS OF BULK AT MOST 1048576: true; the input reads as it did. -/
def wearTruthUptoRow : OpenClaim := { program := "ytblhkhjdkjjheaa", sum := "a077ec802b7719189ac4c9b54b456693c3a8cdf371f991803cc3f1e9979f65c9", func := "collet/colletlaw23.WearTruth", spec := "wearTruth", inPlace := ["slices.overlaps[collet/api.Use]"], unfollowed := true, recurses := true, apart := false, narrowed := true }
def WearTruthUptoSaid : Prop := wearTruthUptoRow.holds Try.pinned (OpenSpec.upto wearTruthSpec)

/-- 'colletlaw23.WearLattice', WHERE WHAT IT READS IS OF BULK AT MOST 1048576: true; the input reads as it did. -/
def wearLatticeUptoRow : OpenClaim := { program := "ytblhkhjdkjjheaa", sum := "a077ec802b7719189ac4c9b54b456693c3a8cdf371f991803cc3f1e9979f65c9", func := "collet/colletlaw23.WearLattice", spec := "wearLattice", inPlace := ["slices.overlaps[collet/api.Use]"], unfollowed := true, recurses := true, apart := false, narrowed := true }
def WearLatticeUptoSaid : Prop := wearLatticeUptoRow.holds Try.pinned (OpenSpec.upto wearLatticeSpec)

/-- 'colletlaw23.WearAdds', WHERE WHAT IT READS IS OF BULK AT MOST 1048576: true; the input reads as it did. -/
def wearAddsUptoRow : OpenClaim := { program := "ytblhkhjdkjjheaa", sum := "a077ec802b7719189ac4c9b54b456693c3a8cdf371f991803cc3f1e9979f65c9", func := "collet/colletlaw23.WearAdds", spec := "wearAdds", inPlace := ["slices.overlaps[collet/api.Use]"], unfollowed := true, recurses := true, apart := false, narrowed := true }
def WearAddsUptoSaid : Prop := wearAddsUptoRow.holds Try.pinned (OpenSpec.upto wearAddsSpec)

/-- 'colletlaw23.WearCosts', WHERE WHAT IT READS IS OF BULK AT MOST 1048576: true; the input reads as it did. -/
def wearCostsUptoRow : OpenClaim := { program := "ytblhkhjdkjjheaa", sum := "a077ec802b7719189ac4c9b54b456693c3a8cdf371f991803cc3f1e9979f65c9", func := "collet/colletlaw23.WearCosts", spec := "wearCosts", inPlace := ["slices.overlaps[collet/api.Use]"], unfollowed := true, recurses := true, apart := false, narrowed := true }
def WearCostsUptoSaid : Prop := wearCostsUptoRow.holds Try.pinned (OpenSpec.upto wearCostsSpec)

end Rows
end Go.Proofs.Ytblhkhjdkjjheaa
