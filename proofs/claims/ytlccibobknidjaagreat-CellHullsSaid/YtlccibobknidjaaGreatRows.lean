/-
  No cell of these rows narrows 'for every input' (looked for: loops, veiled, ifaces, maps, wideKeys, modest, calm, conditions, laid).
  DERIVED. THE GIVEN ROWS OF THIS SEAT. 10 by the template 'for every input the law returns true; each argument reads behind the call as it read before'; 0 by the template 'total and deterministic' (their statements: YtlccibobknidjaaGreatTotals.lean).
  GIVEN WITH THE SEED: the statements are not yours to turn. If you find one false, say at which input.
  Laid BY PROGRAM, IN A SANDBOX (cutbox-rows.mjs): the forced cells as the released guide's own fill.sh prints them over the translation f780a63c51cb3e2b… (all of the seat's roots in one cut). By AI agents, Wed Nov 11 2026. No macro, syntax, notation, axiom, sorry.
-/
import Derived.Test.YtlccibobknidjaaGreatChecked
import GoSem.Claim
import GoSem.ClaimJoined
import GoSem.ClaimMapViews
import Derived.JoinedTies
import Derived.KernelRfl
namespace Go.Proofs.YtlccibobknidjaaGreat
/- THE CELL 'sum', in the pinned program and in every row, IS THE sha256 OF THE DUMP (.gsa) THAT YtlccibobknidjaaGreatProg.lean LOADS. Nothing in Lean hashes anything: it is a label: what it is worth is what the hold of that sum in a sandbox is worth. -/
noncomputable def Tryz.pinned : Pinned := { name := "ytlccibobknidjaagreat", sum := "f780a63c51cb3e2b4f9063acf047c372f413e8c2c4589b82b076a806674e17ba", checked := Tryz.checked }
namespace Rows
def none {H : Type} : Left H := { results := [], args := [] }

/-- 'colletlaw09.CellForms': WHATEVER THE INPUT: true; the input reads as it did. -/
def cellFormsSpec : ChangeSpec := { name := "cellForms", fn := fun _ => fun
  | [d1, d2, d3] => { results := [.lit (.bool true)], args := [d1, d2, d3] }
  | _ => none }
def cellFormsRow : OpenClaim := { program := "ytlccibobknidjaagreat", sum := "f780a63c51cb3e2b4f9063acf047c372f413e8c2c4589b82b076a806674e17ba", func := "collet/colletlaw09.CellForms", spec := "cellForms", unfollowed := true, recurses := true, plainKeys := false, apart := false }
def CellFormsSaid : Prop := cellFormsRow.holds Tryz.pinned (OpenSpec.ofChange cellFormsSpec)

/-- ITS FALSE NEIGHBOUR: 'it returns false'. Refute it at one input. -/
def cellFormsWrong : ChangeSpec := { name := "cellForms", fn := fun _ => fun
  | [d1, d2, d3] => { results := [.lit (.bool false)], args := [d1, d2, d3] }
  | _ => none }
def CellFormsWrongFalsely : Prop := cellFormsRow.holds Tryz.pinned (OpenSpec.ofChange cellFormsWrong)

/-- 'colletlaw09.CellParts': WHATEVER THE INPUT: true; the input reads as it did. -/
def cellPartsSpec : ChangeSpec := { name := "cellParts", fn := fun _ => fun
  | [d1, d2, d3, d4] => { results := [.lit (.bool true)], args := [d1, d2, d3, d4] }
  | _ => none }
def cellPartsRow : OpenClaim := { program := "ytlccibobknidjaagreat", sum := "f780a63c51cb3e2b4f9063acf047c372f413e8c2c4589b82b076a806674e17ba", func := "collet/colletlaw09.CellParts", spec := "cellParts", unfollowed := true, recurses := true, plainKeys := false, apart := false }
def CellPartsSaid : Prop := cellPartsRow.holds Tryz.pinned (OpenSpec.ofChange cellPartsSpec)

/-- ITS FALSE NEIGHBOUR: 'it returns false'. Refute it at one input. -/
def cellPartsWrong : ChangeSpec := { name := "cellParts", fn := fun _ => fun
  | [d1, d2, d3, d4] => { results := [.lit (.bool false)], args := [d1, d2, d3, d4] }
  | _ => none }
def CellPartsWrongFalsely : Prop := cellPartsRow.holds Tryz.pinned (OpenSpec.ofChange cellPartsWrong)

/-- 'colletlaw09.CellPairs': WHATEVER THE INPUT: true; the input reads as it did. -/
def cellPairsSpec : ChangeSpec := { name := "cellPairs", fn := fun _ => fun
  | [d1, d2, d3] => { results := [.lit (.bool true)], args := [d1, d2, d3] }
  | _ => none }
def cellPairsRow : OpenClaim := { program := "ytlccibobknidjaagreat", sum := "f780a63c51cb3e2b4f9063acf047c372f413e8c2c4589b82b076a806674e17ba", func := "collet/colletlaw09.CellPairs", spec := "cellPairs", unfollowed := true, recurses := true, plainKeys := false, apart := false }
def CellPairsSaid : Prop := cellPairsRow.holds Tryz.pinned (OpenSpec.ofChange cellPairsSpec)

/-- ITS FALSE NEIGHBOUR: 'it returns false'. Refute it at one input. -/
def cellPairsWrong : ChangeSpec := { name := "cellPairs", fn := fun _ => fun
  | [d1, d2, d3] => { results := [.lit (.bool false)], args := [d1, d2, d3] }
  | _ => none }
def CellPairsWrongFalsely : Prop := cellPairsRow.holds Tryz.pinned (OpenSpec.ofChange cellPairsWrong)

/-- 'colletlaw09.CellCuts': WHATEVER THE INPUT: true; the input reads as it did. -/
def cellCutsSpec : ChangeSpec := { name := "cellCuts", fn := fun _ => fun
  | [d1, d2] => { results := [.lit (.bool true)], args := [d1, d2] }
  | _ => none }
def cellCutsRow : OpenClaim := { program := "ytlccibobknidjaagreat", sum := "f780a63c51cb3e2b4f9063acf047c372f413e8c2c4589b82b076a806674e17ba", func := "collet/colletlaw09.CellCuts", spec := "cellCuts", unfollowed := true, recurses := true, plainKeys := false, apart := false }
def CellCutsSaid : Prop := cellCutsRow.holds Tryz.pinned (OpenSpec.ofChange cellCutsSpec)

/-- ITS FALSE NEIGHBOUR: 'it returns false'. Refute it at one input. -/
def cellCutsWrong : ChangeSpec := { name := "cellCuts", fn := fun _ => fun
  | [d1, d2] => { results := [.lit (.bool false)], args := [d1, d2] }
  | _ => none }
def CellCutsWrongFalsely : Prop := cellCutsRow.holds Tryz.pinned (OpenSpec.ofChange cellCutsWrong)

/-- 'colletlaw12.SumPlanes': WHATEVER THE INPUT: true; the input reads as it did. -/
def sumPlanesSpec : ChangeSpec := { name := "sumPlanes", fn := fun _ => fun
  | [d1, d2, d3, d4, d5] => { results := [.lit (.bool true)], args := [d1, d2, d3, d4, d5] }
  | _ => none }
def sumPlanesRow : OpenClaim := { program := "ytlccibobknidjaagreat", sum := "f780a63c51cb3e2b4f9063acf047c372f413e8c2c4589b82b076a806674e17ba", func := "collet/colletlaw12.SumPlanes", spec := "sumPlanes", unfollowed := true, recurses := true, plainKeys := false, apart := false }
def SumPlanesSaid : Prop := sumPlanesRow.holds Tryz.pinned (OpenSpec.ofChange sumPlanesSpec)

/-- ITS FALSE NEIGHBOUR: 'it returns false'. Refute it at one input. -/
def sumPlanesWrong : ChangeSpec := { name := "sumPlanes", fn := fun _ => fun
  | [d1, d2, d3, d4, d5] => { results := [.lit (.bool false)], args := [d1, d2, d3, d4, d5] }
  | _ => none }
def SumPlanesWrongFalsely : Prop := sumPlanesRow.holds Tryz.pinned (OpenSpec.ofChange sumPlanesWrong)

/-- 'colletlaw12.SumPoints': WHATEVER THE INPUT: true; the input reads as it did. -/
def sumPointsSpec : ChangeSpec := { name := "sumPoints", fn := fun _ => fun
  | [d1, d2, d3] => { results := [.lit (.bool true)], args := [d1, d2, d3] }
  | _ => none }
def sumPointsRow : OpenClaim := { program := "ytlccibobknidjaagreat", sum := "f780a63c51cb3e2b4f9063acf047c372f413e8c2c4589b82b076a806674e17ba", func := "collet/colletlaw12.SumPoints", spec := "sumPoints", unfollowed := true, recurses := true, plainKeys := false, apart := false }
def SumPointsSaid : Prop := sumPointsRow.holds Tryz.pinned (OpenSpec.ofChange sumPointsSpec)

/-- ITS FALSE NEIGHBOUR: 'it returns false'. Refute it at one input. -/
def sumPointsWrong : ChangeSpec := { name := "sumPoints", fn := fun _ => fun
  | [d1, d2, d3] => { results := [.lit (.bool false)], args := [d1, d2, d3] }
  | _ => none }
def SumPointsWrongFalsely : Prop := sumPointsRow.holds Tryz.pinned (OpenSpec.ofChange sumPointsWrong)

/-- 'colletlaw12.SumSupports': WHATEVER THE INPUT: true; the input reads as it did. -/
def sumSupportsSpec : ChangeSpec := { name := "sumSupports", fn := fun _ => fun
  | [d1, d2, d3] => { results := [.lit (.bool true)], args := [d1, d2, d3] }
  | _ => none }
def sumSupportsRow : OpenClaim := { program := "ytlccibobknidjaagreat", sum := "f780a63c51cb3e2b4f9063acf047c372f413e8c2c4589b82b076a806674e17ba", func := "collet/colletlaw12.SumSupports", spec := "sumSupports", unfollowed := true, recurses := true, plainKeys := false, apart := false }
def SumSupportsSaid : Prop := sumSupportsRow.holds Tryz.pinned (OpenSpec.ofChange sumSupportsSpec)

/-- ITS FALSE NEIGHBOUR: 'it returns false'. Refute it at one input. -/
def sumSupportsWrong : ChangeSpec := { name := "sumSupports", fn := fun _ => fun
  | [d1, d2, d3] => { results := [.lit (.bool false)], args := [d1, d2, d3] }
  | _ => none }
def SumSupportsWrongFalsely : Prop := sumSupportsRow.holds Tryz.pinned (OpenSpec.ofChange sumSupportsWrong)

/-- 'colletlaw13.VolumeForms': WHATEVER THE INPUT: true; the input reads as it did. -/
def volumeFormsSpec : ChangeSpec := { name := "volumeForms", fn := fun _ => fun
  | [d1, d2, d3, d4] => { results := [.lit (.bool true)], args := [d1, d2, d3, d4] }
  | _ => none }
def volumeFormsRow : OpenClaim := { program := "ytlccibobknidjaagreat", sum := "f780a63c51cb3e2b4f9063acf047c372f413e8c2c4589b82b076a806674e17ba", func := "collet/colletlaw13.VolumeForms", spec := "volumeForms", unfollowed := true, recurses := true, plainKeys := false, apart := false }
def VolumeFormsSaid : Prop := volumeFormsRow.holds Tryz.pinned (OpenSpec.ofChange volumeFormsSpec)

/-- ITS FALSE NEIGHBOUR: 'it returns false'. Refute it at one input. -/
def volumeFormsWrong : ChangeSpec := { name := "volumeForms", fn := fun _ => fun
  | [d1, d2, d3, d4] => { results := [.lit (.bool false)], args := [d1, d2, d3, d4] }
  | _ => none }
def VolumeFormsWrongFalsely : Prop := volumeFormsRow.holds Tryz.pinned (OpenSpec.ofChange volumeFormsWrong)

/-- 'colletlaw10.SolidForms': WHATEVER THE INPUT: true; the input reads as it did. -/
def solidFormsSpec : ChangeSpec := { name := "solidForms", fn := fun _ => fun
  | [d1, d2, d3, d4, d5] => { results := [.lit (.bool true)], args := [d1, d2, d3, d4, d5] }
  | _ => none }
def solidFormsRow : OpenClaim := { program := "ytlccibobknidjaagreat", sum := "f780a63c51cb3e2b4f9063acf047c372f413e8c2c4589b82b076a806674e17ba", func := "collet/colletlaw10.SolidForms", spec := "solidForms", unfollowed := true, recurses := true, plainKeys := false, apart := false }
def SolidFormsSaid : Prop := solidFormsRow.holds Tryz.pinned (OpenSpec.ofChange solidFormsSpec)

/-- ITS FALSE NEIGHBOUR: 'it returns false'. Refute it at one input. -/
def solidFormsWrong : ChangeSpec := { name := "solidForms", fn := fun _ => fun
  | [d1, d2, d3, d4, d5] => { results := [.lit (.bool false)], args := [d1, d2, d3, d4, d5] }
  | _ => none }
def SolidFormsWrongFalsely : Prop := solidFormsRow.holds Tryz.pinned (OpenSpec.ofChange solidFormsWrong)

/-- 'colletlaw09.CellHulls': WHATEVER THE INPUT: true; the input reads as it did. -/
def cellHullsSpec : ChangeSpec := { name := "cellHulls", fn := fun _ => fun
  | [d] => { results := [.lit (.bool true)], args := [d] }
  | _ => none }
def cellHullsRow : OpenClaim := { program := "ytlccibobknidjaagreat", sum := "f780a63c51cb3e2b4f9063acf047c372f413e8c2c4589b82b076a806674e17ba", func := "collet/colletlaw09.CellHulls", spec := "cellHulls", unfollowed := true, recurses := true, plainKeys := false, apart := false }
def CellHullsSaid : Prop := cellHullsRow.holds Tryz.pinned (OpenSpec.ofChange cellHullsSpec)

/-- ITS FALSE NEIGHBOUR: 'it returns false'. Refute it at one input. -/
def cellHullsWrong : ChangeSpec := { name := "cellHulls", fn := fun _ => fun
  | [d] => { results := [.lit (.bool false)], args := [d] }
  | _ => none }
def CellHullsWrongFalsely : Prop := cellHullsRow.holds Tryz.pinned (OpenSpec.ofChange cellHullsWrong)

/- THE SECOND FORM. 'bulk': how many values and letters a reading holds, each counted each time it is reached (what is shared counts as often as it is met; a slice's spare places count too). A statement '..UptoSaid' is the law's where the arguments, and the package variables that the reading takes, are together of bulk at most 1048576: NARROWER than '..Said'. Prove '..Said' where nothing that the law and all that it calls make is longer than what came in: it says more and counts as full. Else prove '..UptoSaid'. A law counts once. -/
mutual
def uptoBulk {H : Type} : DataW H → Nat
  | .lit (.string bytes) => bytes.length + 1
  | .lit _ => 1
  | .nil => 1
  | .ptr d => uptoBulk d + 1
  | .slice elems spare => uptoBulkAll elems + uptoBulkAll spare + 1
  | .agg parts => uptoBulkAll parts + 1
  | .iface _ d => uptoBulk d + 1
  | .map entries => uptoBulkEntries entries + 1
  | .held _ => 1
def uptoBulkAll {H : Type} : List (DataW H) → Nat
  | [] => 0
  | d :: r => uptoBulk d + uptoBulkAll r
def uptoBulkEntries {H : Type} : List (Lit × DataW H) → Nat
  | [] => 0
  | x :: r => uptoBulkEntry x + uptoBulkEntries r
def uptoBulkEntry {H : Type} : Lit × DataW H → Nat
  | (.string bytes, d) => bytes.length + uptoBulk d + 1
  | (_, d) => uptoBulk d + 1
 end
def uptoSmall : (H : Type) → List (DataW H) → Bool := fun _ ds => decide (uptoBulkAll ds ≤ 1048576)
def OpenSpec.upto (s : _root_.Go.ChangeSpec) : _root_.Go.OpenSpec := { _root_.Go.OpenSpec.ofChange s with cond := some uptoSmall }

/-- 'colletlaw09.CellForms', WHERE WHAT IT READS IS OF BULK AT MOST 1048576: true; the input reads as it did. -/
def cellFormsUptoRow : OpenClaim := { program := "ytlccibobknidjaagreat", sum := "f780a63c51cb3e2b4f9063acf047c372f413e8c2c4589b82b076a806674e17ba", func := "collet/colletlaw09.CellForms", spec := "cellForms", unfollowed := true, recurses := true, plainKeys := false, apart := false, narrowed := true }
def CellFormsUptoSaid : Prop := cellFormsUptoRow.holds Tryz.pinned (OpenSpec.upto cellFormsSpec)

/-- 'colletlaw09.CellParts', WHERE WHAT IT READS IS OF BULK AT MOST 1048576: true; the input reads as it did. -/
def cellPartsUptoRow : OpenClaim := { program := "ytlccibobknidjaagreat", sum := "f780a63c51cb3e2b4f9063acf047c372f413e8c2c4589b82b076a806674e17ba", func := "collet/colletlaw09.CellParts", spec := "cellParts", unfollowed := true, recurses := true, plainKeys := false, apart := false, narrowed := true }
def CellPartsUptoSaid : Prop := cellPartsUptoRow.holds Tryz.pinned (OpenSpec.upto cellPartsSpec)

/-- 'colletlaw09.CellPairs', WHERE WHAT IT READS IS OF BULK AT MOST 1048576: true; the input reads as it did. -/
def cellPairsUptoRow : OpenClaim := { program := "ytlccibobknidjaagreat", sum := "f780a63c51cb3e2b4f9063acf047c372f413e8c2c4589b82b076a806674e17ba", func := "collet/colletlaw09.CellPairs", spec := "cellPairs", unfollowed := true, recurses := true, plainKeys := false, apart := false, narrowed := true }
def CellPairsUptoSaid : Prop := cellPairsUptoRow.holds Tryz.pinned (OpenSpec.upto cellPairsSpec)

/-- 'colletlaw09.CellCuts', WHERE WHAT IT READS IS OF BULK AT MOST 1048576: true; the input reads as it did. -/
def cellCutsUptoRow : OpenClaim := { program := "ytlccibobknidjaagreat", sum := "f780a63c51cb3e2b4f9063acf047c372f413e8c2c4589b82b076a806674e17ba", func := "collet/colletlaw09.CellCuts", spec := "cellCuts", unfollowed := true, recurses := true, plainKeys := false, apart := false, narrowed := true }
def CellCutsUptoSaid : Prop := cellCutsUptoRow.holds Tryz.pinned (OpenSpec.upto cellCutsSpec)

/-- 'colletlaw12.SumPlanes', WHERE WHAT IT READS IS OF BULK AT MOST 1048576: true; the input reads as it did. -/
def sumPlanesUptoRow : OpenClaim := { program := "ytlccibobknidjaagreat", sum := "f780a63c51cb3e2b4f9063acf047c372f413e8c2c4589b82b076a806674e17ba", func := "collet/colletlaw12.SumPlanes", spec := "sumPlanes", unfollowed := true, recurses := true, plainKeys := false, apart := false, narrowed := true }
def SumPlanesUptoSaid : Prop := sumPlanesUptoRow.holds Tryz.pinned (OpenSpec.upto sumPlanesSpec)

/-- 'colletlaw12.SumPoints', WHERE WHAT IT READS IS OF BULK AT MOST 1048576: true; the input reads as it did. -/
def sumPointsUptoRow : OpenClaim := { program := "ytlccibobknidjaagreat", sum := "f780a63c51cb3e2b4f9063acf047c372f413e8c2c4589b82b076a806674e17ba", func := "collet/colletlaw12.SumPoints", spec := "sumPoints", unfollowed := true, recurses := true, plainKeys := false, apart := false, narrowed := true }
def SumPointsUptoSaid : Prop := sumPointsUptoRow.holds Tryz.pinned (OpenSpec.upto sumPointsSpec)

/-- 'colletlaw12.SumSupports', WHERE WHAT IT READS IS OF BULK AT MOST 1048576: true; the input reads as it did. -/
def sumSupportsUptoRow : OpenClaim := { program := "ytlccibobknidjaagreat", sum := "f780a63c51cb3e2b4f9063acf047c372f413e8c2c4589b82b076a806674e17ba", func := "collet/colletlaw12.SumSupports", spec := "sumSupports", unfollowed := true, recurses := true, plainKeys := false, apart := false, narrowed := true }
def SumSupportsUptoSaid : Prop := sumSupportsUptoRow.holds Tryz.pinned (OpenSpec.upto sumSupportsSpec)

/-- 'colletlaw13.VolumeForms', WHERE WHAT IT READS IS OF BULK AT MOST 1048576: true; the input reads as it did. -/
def volumeFormsUptoRow : OpenClaim := { program := "ytlccibobknidjaagreat", sum := "f780a63c51cb3e2b4f9063acf047c372f413e8c2c4589b82b076a806674e17ba", func := "collet/colletlaw13.VolumeForms", spec := "volumeForms", unfollowed := true, recurses := true, plainKeys := false, apart := false, narrowed := true }
def VolumeFormsUptoSaid : Prop := volumeFormsUptoRow.holds Tryz.pinned (OpenSpec.upto volumeFormsSpec)

/-- 'colletlaw10.SolidForms', WHERE WHAT IT READS IS OF BULK AT MOST 1048576: true; the input reads as it did. -/
def solidFormsUptoRow : OpenClaim := { program := "ytlccibobknidjaagreat", sum := "f780a63c51cb3e2b4f9063acf047c372f413e8c2c4589b82b076a806674e17ba", func := "collet/colletlaw10.SolidForms", spec := "solidForms", unfollowed := true, recurses := true, plainKeys := false, apart := false, narrowed := true }
def SolidFormsUptoSaid : Prop := solidFormsUptoRow.holds Tryz.pinned (OpenSpec.upto solidFormsSpec)

/-- 'colletlaw09.CellHulls', WHERE WHAT IT READS IS OF BULK AT MOST 1048576: true; the input reads as it did. -/
def cellHullsUptoRow : OpenClaim := { program := "ytlccibobknidjaagreat", sum := "f780a63c51cb3e2b4f9063acf047c372f413e8c2c4589b82b076a806674e17ba", func := "collet/colletlaw09.CellHulls", spec := "cellHulls", unfollowed := true, recurses := true, plainKeys := false, apart := false, narrowed := true }
def CellHullsUptoSaid : Prop := cellHullsUptoRow.holds Tryz.pinned (OpenSpec.upto cellHullsSpec)

end Rows
end Go.Proofs.YtlccibobknidjaaGreat
