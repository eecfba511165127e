/-
  No cell of these rows narrows 'for every input' (looked for: loops, veiled, ifaces, maps, wideKeys, modest, calm, conditions, laid).
  DERIVED. THE GIVEN ROWS OF THIS SEAT. 12 by the template 'for every input the law returns true; each argument reads behind the call as it read before'; 0 by the template 'total and deterministic' (their statements: YtekgjjgbdcgldaaGreatTotals.lean).
  GIVEN WITH THE SEED: the statements are not yours to turn. If you find one false, say at which input.
  Laid BY PROGRAM, IN A SANDBOX (cutbox-rows.mjs): the forced cells as the released guide's own fill.sh prints them over the translation ed6cf8a815961119… (all of the seat's roots in one cut). By AI agents, Wed Nov 11 2026. No macro, syntax, notation, axiom, sorry.
-/
import Derived.Test.YtekgjjgbdcgldaaGreatChecked
import GoSem.Claim
import GoSem.ClaimJoined
import GoSem.ClaimMapViews
import Derived.JoinedTies
import Derived.KernelRfl
namespace Go.Proofs.YtekgjjgbdcgldaaGreat
/- THE CELL 'sum', in the pinned program and in every row, IS THE sha256 OF THE DUMP (.gsa) THAT YtekgjjgbdcgldaaGreatProg.lean LOADS. Nothing in Lean hashes anything: it is a label: what it is worth is what the hold of that sum in a sandbox is worth. -/
noncomputable def Tryz.pinned : Pinned := { name := "ytekgjjgbdcgldaagreat", sum := "ed6cf8a81596111993fbb25127a2245387dfb5818123787386eebb6a62c40e53", checked := Tryz.checked }
namespace Rows
def none {H : Type} : Left H := { results := [], args := [] }

/-- 'colletlaw12.SumPlanes': WHATEVER THE INPUT: true; the input reads as it did. -/
def sumPlanesSpec : ChangeSpec := { name := "sumPlanes", fn := fun _ => fun
  | [d1, d2, d3, d4, d5] => { results := [.lit (.bool true)], args := [d1, d2, d3, d4, d5] }
  | _ => none }
def sumPlanesRow : OpenClaim := { program := "ytekgjjgbdcgldaagreat", sum := "ed6cf8a81596111993fbb25127a2245387dfb5818123787386eebb6a62c40e53", func := "collet/colletlaw12.SumPlanes", spec := "sumPlanes", unfollowed := true, recurses := true, plainKeys := false, apart := false }
def SumPlanesSaid : Prop := sumPlanesRow.holds Tryz.pinned (OpenSpec.ofChange sumPlanesSpec)

/-- ITS FALSE NEIGHBOUR: 'it returns false'. Refute it at one input. -/
def sumPlanesWrong : ChangeSpec := { name := "sumPlanes", fn := fun _ => fun
  | [d1, d2, d3, d4, d5] => { results := [.lit (.bool false)], args := [d1, d2, d3, d4, d5] }
  | _ => none }
def SumPlanesWrongFalsely : Prop := sumPlanesRow.holds Tryz.pinned (OpenSpec.ofChange sumPlanesWrong)

/-- 'colletlaw12.SumPoints': WHATEVER THE INPUT: true; the input reads as it did. -/
def sumPointsSpec : ChangeSpec := { name := "sumPoints", fn := fun _ => fun
  | [d1, d2, d3] => { results := [.lit (.bool true)], args := [d1, d2, d3] }
  | _ => none }
def sumPointsRow : OpenClaim := { program := "ytekgjjgbdcgldaagreat", sum := "ed6cf8a81596111993fbb25127a2245387dfb5818123787386eebb6a62c40e53", func := "collet/colletlaw12.SumPoints", spec := "sumPoints", unfollowed := true, recurses := true, plainKeys := false, apart := false }
def SumPointsSaid : Prop := sumPointsRow.holds Tryz.pinned (OpenSpec.ofChange sumPointsSpec)

/-- ITS FALSE NEIGHBOUR: 'it returns false'. Refute it at one input. -/
def sumPointsWrong : ChangeSpec := { name := "sumPoints", fn := fun _ => fun
  | [d1, d2, d3] => { results := [.lit (.bool false)], args := [d1, d2, d3] }
  | _ => none }
def SumPointsWrongFalsely : Prop := sumPointsRow.holds Tryz.pinned (OpenSpec.ofChange sumPointsWrong)

/-- 'colletlaw12.SumSupports': WHATEVER THE INPUT: true; the input reads as it did. -/
def sumSupportsSpec : ChangeSpec := { name := "sumSupports", fn := fun _ => fun
  | [d1, d2, d3] => { results := [.lit (.bool true)], args := [d1, d2, d3] }
  | _ => none }
def sumSupportsRow : OpenClaim := { program := "ytekgjjgbdcgldaagreat", sum := "ed6cf8a81596111993fbb25127a2245387dfb5818123787386eebb6a62c40e53", func := "collet/colletlaw12.SumSupports", spec := "sumSupports", unfollowed := true, recurses := true, plainKeys := false, apart := false }
def SumSupportsSaid : Prop := sumSupportsRow.holds Tryz.pinned (OpenSpec.ofChange sumSupportsSpec)

/-- ITS FALSE NEIGHBOUR: 'it returns false'. Refute it at one input. -/
def sumSupportsWrong : ChangeSpec := { name := "sumSupports", fn := fun _ => fun
  | [d1, d2, d3] => { results := [.lit (.bool false)], args := [d1, d2, d3] }
  | _ => none }
def SumSupportsWrongFalsely : Prop := sumSupportsRow.holds Tryz.pinned (OpenSpec.ofChange sumSupportsWrong)

/-- 'colletlaw12.SumSweeps': WHATEVER THE INPUT: true; the input reads as it did. -/
def sumSweepsSpec : ChangeSpec := { name := "sumSweeps", fn := fun _ => fun
  | [d1, d2, d3, d4] => { results := [.lit (.bool true)], args := [d1, d2, d3, d4] }
  | _ => none }
def sumSweepsRow : OpenClaim := { program := "ytekgjjgbdcgldaagreat", sum := "ed6cf8a81596111993fbb25127a2245387dfb5818123787386eebb6a62c40e53", func := "collet/colletlaw12.SumSweeps", spec := "sumSweeps", unfollowed := true, recurses := true, plainKeys := false, apart := false }
def SumSweepsSaid : Prop := sumSweepsRow.holds Tryz.pinned (OpenSpec.ofChange sumSweepsSpec)

/-- ITS FALSE NEIGHBOUR: 'it returns false'. Refute it at one input. -/
def sumSweepsWrong : ChangeSpec := { name := "sumSweeps", fn := fun _ => fun
  | [d1, d2, d3, d4] => { results := [.lit (.bool false)], args := [d1, d2, d3, d4] }
  | _ => none }
def SumSweepsWrongFalsely : Prop := sumSweepsRow.holds Tryz.pinned (OpenSpec.ofChange sumSweepsWrong)

/-- 'colletlaw10.SolidForms': WHATEVER THE INPUT: true; the input reads as it did. -/
def solidFormsSpec : ChangeSpec := { name := "solidForms", fn := fun _ => fun
  | [d1, d2, d3, d4, d5] => { results := [.lit (.bool true)], args := [d1, d2, d3, d4, d5] }
  | _ => none }
def solidFormsRow : OpenClaim := { program := "ytekgjjgbdcgldaagreat", sum := "ed6cf8a81596111993fbb25127a2245387dfb5818123787386eebb6a62c40e53", func := "collet/colletlaw10.SolidForms", spec := "solidForms", unfollowed := true, recurses := true, plainKeys := false, apart := false }
def SolidFormsSaid : Prop := solidFormsRow.holds Tryz.pinned (OpenSpec.ofChange solidFormsSpec)

/-- ITS FALSE NEIGHBOUR: 'it returns false'. Refute it at one input. -/
def solidFormsWrong : ChangeSpec := { name := "solidForms", fn := fun _ => fun
  | [d1, d2, d3, d4, d5] => { results := [.lit (.bool false)], args := [d1, d2, d3, d4, d5] }
  | _ => none }
def SolidFormsWrongFalsely : Prop := solidFormsRow.holds Tryz.pinned (OpenSpec.ofChange solidFormsWrong)

/-- 'colletlaw10.SolidHalves': WHATEVER THE INPUT: true; the input reads as it did. -/
def solidHalvesSpec : ChangeSpec := { name := "solidHalves", fn := fun _ => fun
  | [d1, d2, d3] => { results := [.lit (.bool true)], args := [d1, d2, d3] }
  | _ => none }
def solidHalvesRow : OpenClaim := { program := "ytekgjjgbdcgldaagreat", sum := "ed6cf8a81596111993fbb25127a2245387dfb5818123787386eebb6a62c40e53", func := "collet/colletlaw10.SolidHalves", spec := "solidHalves", unfollowed := true, recurses := true, plainKeys := false, apart := false }
def SolidHalvesSaid : Prop := solidHalvesRow.holds Tryz.pinned (OpenSpec.ofChange solidHalvesSpec)

/-- ITS FALSE NEIGHBOUR: 'it returns false'. Refute it at one input. -/
def solidHalvesWrong : ChangeSpec := { name := "solidHalves", fn := fun _ => fun
  | [d1, d2, d3] => { results := [.lit (.bool false)], args := [d1, d2, d3] }
  | _ => none }
def SolidHalvesWrongFalsely : Prop := solidHalvesRow.holds Tryz.pinned (OpenSpec.ofChange solidHalvesWrong)

/-- 'colletlaw10.SolidOrder': WHATEVER THE INPUT: true; the input reads as it did. -/
def solidOrderSpec : ChangeSpec := { name := "solidOrder", fn := fun _ => fun
  | [d1, d2, d3, d4] => { results := [.lit (.bool true)], args := [d1, d2, d3, d4] }
  | _ => none }
def solidOrderRow : OpenClaim := { program := "ytekgjjgbdcgldaagreat", sum := "ed6cf8a81596111993fbb25127a2245387dfb5818123787386eebb6a62c40e53", func := "collet/colletlaw10.SolidOrder", spec := "solidOrder", unfollowed := true, recurses := true, plainKeys := false, apart := false }
def SolidOrderSaid : Prop := solidOrderRow.holds Tryz.pinned (OpenSpec.ofChange solidOrderSpec)

/-- ITS FALSE NEIGHBOUR: 'it returns false'. Refute it at one input. -/
def solidOrderWrong : ChangeSpec := { name := "solidOrder", fn := fun _ => fun
  | [d1, d2, d3, d4] => { results := [.lit (.bool false)], args := [d1, d2, d3, d4] }
  | _ => none }
def SolidOrderWrongFalsely : Prop := solidOrderRow.holds Tryz.pinned (OpenSpec.ofChange solidOrderWrong)

/-- 'colletlaw10.SolidMinus': WHATEVER THE INPUT: true; the input reads as it did. -/
def solidMinusSpec : ChangeSpec := { name := "solidMinus", fn := fun _ => fun
  | [d1, d2] => { results := [.lit (.bool true)], args := [d1, d2] }
  | _ => none }
def solidMinusRow : OpenClaim := { program := "ytekgjjgbdcgldaagreat", sum := "ed6cf8a81596111993fbb25127a2245387dfb5818123787386eebb6a62c40e53", func := "collet/colletlaw10.SolidMinus", spec := "solidMinus", unfollowed := true, recurses := true, plainKeys := false, apart := false }
def SolidMinusSaid : Prop := solidMinusRow.holds Tryz.pinned (OpenSpec.ofChange solidMinusSpec)

/-- ITS FALSE NEIGHBOUR: 'it returns false'. Refute it at one input. -/
def solidMinusWrong : ChangeSpec := { name := "solidMinus", fn := fun _ => fun
  | [d1, d2] => { results := [.lit (.bool false)], args := [d1, d2] }
  | _ => none }
def SolidMinusWrongFalsely : Prop := solidMinusRow.holds Tryz.pinned (OpenSpec.ofChange solidMinusWrong)

/-- 'colletlaw10.SolidPoints': WHATEVER THE INPUT: true; the input reads as it did. -/
def solidPointsSpec : ChangeSpec := { name := "solidPoints", fn := fun _ => fun
  | [d1, d2, d3] => { results := [.lit (.bool true)], args := [d1, d2, d3] }
  | _ => none }
def solidPointsRow : OpenClaim := { program := "ytekgjjgbdcgldaagreat", sum := "ed6cf8a81596111993fbb25127a2245387dfb5818123787386eebb6a62c40e53", func := "collet/colletlaw10.SolidPoints", spec := "solidPoints", unfollowed := true, recurses := true, plainKeys := false, apart := false }
def SolidPointsSaid : Prop := solidPointsRow.holds Tryz.pinned (OpenSpec.ofChange solidPointsSpec)

/-- ITS FALSE NEIGHBOUR: 'it returns false'. Refute it at one input. -/
def solidPointsWrong : ChangeSpec := { name := "solidPoints", fn := fun _ => fun
  | [d1, d2, d3] => { results := [.lit (.bool false)], args := [d1, d2, d3] }
  | _ => none }
def SolidPointsWrongFalsely : Prop := solidPointsRow.holds Tryz.pinned (OpenSpec.ofChange solidPointsWrong)

/-- 'colletlaw10.SolidBoxes': WHATEVER THE INPUT: true; the input reads as it did. -/
def solidBoxesSpec : ChangeSpec := { name := "solidBoxes", fn := fun _ => fun
  | [d1, d2] => { results := [.lit (.bool true)], args := [d1, d2] }
  | _ => none }
def solidBoxesRow : OpenClaim := { program := "ytekgjjgbdcgldaagreat", sum := "ed6cf8a81596111993fbb25127a2245387dfb5818123787386eebb6a62c40e53", func := "collet/colletlaw10.SolidBoxes", spec := "solidBoxes", unfollowed := true, recurses := true, plainKeys := false, apart := false }
def SolidBoxesSaid : Prop := solidBoxesRow.holds Tryz.pinned (OpenSpec.ofChange solidBoxesSpec)

/-- ITS FALSE NEIGHBOUR: 'it returns false'. Refute it at one input. -/
def solidBoxesWrong : ChangeSpec := { name := "solidBoxes", fn := fun _ => fun
  | [d1, d2] => { results := [.lit (.bool false)], args := [d1, d2] }
  | _ => none }
def SolidBoxesWrongFalsely : Prop := solidBoxesRow.holds Tryz.pinned (OpenSpec.ofChange solidBoxesWrong)

/-- 'colletlaw12.SumBoxes': WHATEVER THE INPUT: true; the input reads as it did. -/
def sumBoxesSpec : ChangeSpec := { name := "sumBoxes", fn := fun _ => fun
  | [d1, d2] => { results := [.lit (.bool true)], args := [d1, d2] }
  | _ => none }
def sumBoxesRow : OpenClaim := { program := "ytekgjjgbdcgldaagreat", sum := "ed6cf8a81596111993fbb25127a2245387dfb5818123787386eebb6a62c40e53", func := "collet/colletlaw12.SumBoxes", spec := "sumBoxes", unfollowed := true, recurses := true, plainKeys := false, apart := false }
def SumBoxesSaid : Prop := sumBoxesRow.holds Tryz.pinned (OpenSpec.ofChange sumBoxesSpec)

/-- ITS FALSE NEIGHBOUR: 'it returns false'. Refute it at one input. -/
def sumBoxesWrong : ChangeSpec := { name := "sumBoxes", fn := fun _ => fun
  | [d1, d2] => { results := [.lit (.bool false)], args := [d1, d2] }
  | _ => none }
def SumBoxesWrongFalsely : Prop := sumBoxesRow.holds Tryz.pinned (OpenSpec.ofChange sumBoxesWrong)

/-- 'colletlaw12.SumErrors': WHATEVER THE INPUT: true; the input reads as it did. -/
def sumErrorsSpec : ChangeSpec := { name := "sumErrors", fn := fun _ => fun
  | [d1, d2, d3, d4] => { results := [.lit (.bool true)], args := [d1, d2, d3, d4] }
  | _ => none }
def sumErrorsRow : OpenClaim := { program := "ytekgjjgbdcgldaagreat", sum := "ed6cf8a81596111993fbb25127a2245387dfb5818123787386eebb6a62c40e53", func := "collet/colletlaw12.SumErrors", spec := "sumErrors", unfollowed := true, recurses := true, plainKeys := false, apart := false }
def SumErrorsSaid : Prop := sumErrorsRow.holds Tryz.pinned (OpenSpec.ofChange sumErrorsSpec)

/-- ITS FALSE NEIGHBOUR: 'it returns false'. Refute it at one input. -/
def sumErrorsWrong : ChangeSpec := { name := "sumErrors", fn := fun _ => fun
  | [d1, d2, d3, d4] => { results := [.lit (.bool false)], args := [d1, d2, d3, d4] }
  | _ => none }
def SumErrorsWrongFalsely : Prop := sumErrorsRow.holds Tryz.pinned (OpenSpec.ofChange sumErrorsWrong)

/- THE SECOND FORM. 'bulk': how many values and letters a reading holds, each counted each time it is reached (what is shared counts as often as it is met; a slice's spare places count too). A statement '..UptoSaid' is the law's where the arguments, and the package variables that the reading takes, are together of bulk at most 1048576: NARROWER than '..Said'. Prove '..Said' where nothing that the law and all that it calls make is longer than what came in: it says more and counts as full. Else prove '..UptoSaid'. A law counts once. -/
mutual
def uptoBulk {H : Type} : DataW H → Nat
  | .lit (.string bytes) => bytes.length + 1
  | .lit _ => 1
  | .nil => 1
  | .ptr d => uptoBulk d + 1
  | .slice elems spare => uptoBulkAll elems + uptoBulkAll spare + 1
  | .agg parts => uptoBulkAll parts + 1
  | .iface _ d => uptoBulk d + 1
  | .map entries => uptoBulkEntries entries + 1
  | .held _ => 1
def uptoBulkAll {H : Type} : List (DataW H) → Nat
  | [] => 0
  | d :: r => uptoBulk d + uptoBulkAll r
def uptoBulkEntries {H : Type} : List (Lit × DataW H) → Nat
  | [] => 0
  | x :: r => uptoBulkEntry x + uptoBulkEntries r
def uptoBulkEntry {H : Type} : Lit × DataW H → Nat
  | (.string bytes, d) => bytes.length + uptoBulk d + 1
  | (_, d) => uptoBulk d + 1
 end
def uptoSmall : (H : Type) → List (DataW H) → Bool := fun _ ds => decide (uptoBulkAll ds ≤ 1048576)
def OpenSpec.upto (s : _root_.Go.ChangeSpec) : _root_.Go.OpenSpec := { _root_.Go.OpenSpec.ofChange s with cond := some uptoSmall }

/-- 'colletlaw12.SumPlanes', WHERE WHAT IT READS IS OF BULK AT MOST 1048576: true; the input reads as it did. -/
def sumPlanesUptoRow : OpenClaim := { program := "ytekgjjgbdcgldaagreat", sum := "ed6cf8a81596111993fbb25127a2245387dfb5818123787386eebb6a62c40e53", func := "collet/colletlaw12.SumPlanes", spec := "sumPlanes", unfollowed := true, recurses := true, plainKeys := false, apart := false, narrowed := true }
def SumPlanesUptoSaid : Prop := sumPlanesUptoRow.holds Tryz.pinned (OpenSpec.upto sumPlanesSpec)

/-- 'colletlaw12.SumPoints', WHERE WHAT IT READS IS OF BULK AT MOST 1048576: true; the input reads as it did. -/
def sumPointsUptoRow : OpenClaim := { program := "ytekgjjgbdcgldaagreat", sum := "ed6cf8a81596111993fbb25127a2245387dfb5818123787386eebb6a62c40e53", func := "collet/colletlaw12.SumPoints", spec := "sumPoints", unfollowed := true, recurses := true, plainKeys := false, apart := false, narrowed := true }
def SumPointsUptoSaid : Prop := sumPointsUptoRow.holds Tryz.pinned (OpenSpec.upto sumPointsSpec)

/-- 'colletlaw12.SumSupports', WHERE WHAT IT READS IS OF BULK AT MOST 1048576: true; the input reads as it did. -/
def sumSupportsUptoRow : OpenClaim := { program := "ytekgjjgbdcgldaagreat", sum := "ed6cf8a81596111993fbb25127a2245387dfb5818123787386eebb6a62c40e53", func := "collet/colletlaw12.SumSupports", spec := "sumSupports", unfollowed := true, recurses := true, plainKeys := false, apart := false, narrowed := true }
def SumSupportsUptoSaid : Prop := sumSupportsUptoRow.holds Tryz.pinned (OpenSpec.upto sumSupportsSpec)

/-- 'colletlaw12.SumSweeps', WHERE WHAT IT READS IS OF BULK AT MOST 1048576: true; the input reads as it did. -/
def sumSweepsUptoRow : OpenClaim := { program := "ytekgjjgbdcgldaagreat", sum := "ed6cf8a81596111993fbb25127a2245387dfb5818123787386eebb6a62c40e53", func := "collet/colletlaw12.SumSweeps", spec := "sumSweeps", unfollowed := true, recurses := true, plainKeys := false, apart := false, narrowed := true }
def SumSweepsUptoSaid : Prop := sumSweepsUptoRow.holds Tryz.pinned (OpenSpec.upto sumSweepsSpec)

/-- 'colletlaw10.SolidForms', WHERE WHAT IT READS IS OF BULK AT MOST 1048576: true; the input reads as it did. -/
def solidFormsUptoRow : OpenClaim := { program := "ytekgjjgbdcgldaagreat", sum := "ed6cf8a81596111993fbb25127a2245387dfb5818123787386eebb6a62c40e53", func := "collet/colletlaw10.SolidForms", spec := "solidForms", unfollowed := true, recurses := true, plainKeys := false, apart := false, narrowed := true }
def SolidFormsUptoSaid : Prop := solidFormsUptoRow.holds Tryz.pinned (OpenSpec.upto solidFormsSpec)

/-- 'colletlaw10.SolidHalves', WHERE WHAT IT READS IS OF BULK AT MOST 1048576: true; the input reads as it did. -/
def solidHalvesUptoRow : OpenClaim := { program := "ytekgjjgbdcgldaagreat", sum := "ed6cf8a81596111993fbb25127a2245387dfb5818123787386eebb6a62c40e53", func := "collet/colletlaw10.SolidHalves", spec := "solidHalves", unfollowed := true, recurses := true, plainKeys := false, apart := false, narrowed := true }
def SolidHalvesUptoSaid : Prop := solidHalvesUptoRow.holds Tryz.pinned (OpenSpec.upto solidHalvesSpec)

/-- 'colletlaw10.SolidOrder', WHERE WHAT IT READS IS OF BULK AT MOST 1048576: true; the input reads as it did. -/
def solidOrderUptoRow : OpenClaim := { program := "ytekgjjgbdcgldaagreat", sum := "ed6cf8a81596111993fbb25127a2245387dfb5818123787386eebb6a62c40e53", func := "collet/colletlaw10.SolidOrder", spec := "solidOrder", unfollowed := true, recurses := true, plainKeys := false, apart := false, narrowed := true }
def SolidOrderUptoSaid : Prop := solidOrderUptoRow.holds Tryz.pinned (OpenSpec.upto solidOrderSpec)

/-- 'colletlaw10.SolidMinus', WHERE WHAT IT READS IS OF BULK AT MOST 1048576: true; the input reads as it did. -/
def solidMinusUptoRow : OpenClaim := { program := "ytekgjjgbdcgldaagreat", sum := "ed6cf8a81596111993fbb25127a2245387dfb5818123787386eebb6a62c40e53", func := "collet/colletlaw10.SolidMinus", spec := "solidMinus", unfollowed := true, recurses := true, plainKeys := false, apart := false, narrowed := true }
def SolidMinusUptoSaid : Prop := solidMinusUptoRow.holds Tryz.pinned (OpenSpec.upto solidMinusSpec)

/-- 'colletlaw10.SolidPoints', WHERE WHAT IT READS IS OF BULK AT MOST 1048576: true; the input reads as it did. -/
def solidPointsUptoRow : OpenClaim := { program := "ytekgjjgbdcgldaagreat", sum := "ed6cf8a81596111993fbb25127a2245387dfb5818123787386eebb6a62c40e53", func := "collet/colletlaw10.SolidPoints", spec := "solidPoints", unfollowed := true, recurses := true, plainKeys := false, apart := false, narrowed := true }
def SolidPointsUptoSaid : Prop := solidPointsUptoRow.holds Tryz.pinned (OpenSpec.upto solidPointsSpec)

/-- 'colletlaw10.SolidBoxes', WHERE WHAT IT READS IS OF BULK AT MOST 1048576: true; the input reads as it did. -/
def solidBoxesUptoRow : OpenClaim := { program := "ytekgjjgbdcgldaagreat", sum := "ed6cf8a81596111993fbb25127a2245387dfb5818123787386eebb6a62c40e53", func := "collet/colletlaw10.SolidBoxes", spec := "solidBoxes", unfollowed := true, recurses := true, plainKeys := false, apart := false, narrowed := true }
def SolidBoxesUptoSaid : Prop := solidBoxesUptoRow.holds Tryz.pinned (OpenSpec.upto solidBoxesSpec)

/-- 'colletlaw12.SumBoxes', WHERE WHAT IT READS IS OF BULK AT MOST 1048576: true; the input reads as it did. -/
def sumBoxesUptoRow : OpenClaim := { program := "ytekgjjgbdcgldaagreat", sum := "ed6cf8a81596111993fbb25127a2245387dfb5818123787386eebb6a62c40e53", func := "collet/colletlaw12.SumBoxes", spec := "sumBoxes", unfollowed := true, recurses := true, plainKeys := false, apart := false, narrowed := true }
def SumBoxesUptoSaid : Prop := sumBoxesUptoRow.holds Tryz.pinned (OpenSpec.upto sumBoxesSpec)

/-- 'colletlaw12.SumErrors', WHERE WHAT IT READS IS OF BULK AT MOST 1048576: true; the input reads as it did. -/
def sumErrorsUptoRow : OpenClaim := { program := "ytekgjjgbdcgldaagreat", sum := "ed6cf8a81596111993fbb25127a2245387dfb5818123787386eebb6a62c40e53", func := "collet/colletlaw12.SumErrors", spec := "sumErrors", unfollowed := true, recurses := true, plainKeys := false, apart := false, narrowed := true }
def SumErrorsUptoSaid : Prop := sumErrorsUptoRow.holds Tryz.pinned (OpenSpec.upto sumErrorsSpec)

end Rows
end Go.Proofs.YtekgjjgbdcgldaaGreat
