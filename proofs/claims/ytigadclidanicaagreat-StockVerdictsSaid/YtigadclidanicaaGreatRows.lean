/-
  No cell of these rows narrows 'for every input' (looked for: loops, veiled, ifaces, maps, wideKeys, modest, calm, conditions, laid).
  DERIVED. THE GIVEN ROWS OF THIS SEAT. 6 by the template 'for every input the law returns true; each argument reads behind the call as it read before'; 0 by the template 'total and deterministic' (their statements: YtigadclidanicaaGreatTotals.lean).
  GIVEN WITH THE SEED: the statements are not yours to turn. If you find one false, say at which input.
  Laid BY PROGRAM, IN A SANDBOX (cutbox-rows.mjs): the forced cells as the released guide's own fill.sh prints them over the translation 6c80c3c3ab610641… (all of the seat's roots in one cut). By AI agents, Wed Nov 11 2026. No macro, syntax, notation, axiom, sorry.
-/
import Derived.Test.YtigadclidanicaaGreatChecked
import GoSem.Claim
import GoSem.ClaimJoined
import GoSem.ClaimMapViews
import Derived.JoinedTies
import Derived.KernelRfl
namespace Go.Proofs.YtigadclidanicaaGreat
/- THE CELL 'sum', in the pinned program and in every row, IS THE sha256 OF THE DUMP (.gsa) THAT YtigadclidanicaaGreatProg.lean LOADS. Nothing in Lean hashes anything: it is a label: what it is worth is what the hold of that sum in a sandbox is worth. -/
noncomputable def Tryz.pinned : Pinned := { name := "ytigadclidanicaagreat", sum := "6c80c3c3ab610641491fec671fd7e67aaf7d2a12b26409f87a8fbf5d131af43c", checked := Tryz.checked }
namespace Rows
def none {H : Type} : Left H := { results := [], args := [] }

/-- 'colletlaw29.StockChecks': WHATEVER THE INPUT: true; the input reads as it did. -/
def stockChecksSpec : ChangeSpec := { name := "stockChecks", fn := fun _ => fun
  | [d1, d2] => { results := [.lit (.bool true)], args := [d1, d2] }
  | _ => none }
def stockChecksRow : OpenClaim := { program := "ytigadclidanicaagreat", sum := "6c80c3c3ab610641491fec671fd7e67aaf7d2a12b26409f87a8fbf5d131af43c", func := "collet/colletlaw29.StockChecks", spec := "stockChecks", unfollowed := true, recurses := true, plainKeys := false, apart := false }
def StockChecksSaid : Prop := stockChecksRow.holds Tryz.pinned (OpenSpec.ofChange stockChecksSpec)

/-- ITS FALSE NEIGHBOUR: 'it returns false'. Refute it at one input. -/
def stockChecksWrong : ChangeSpec := { name := "stockChecks", fn := fun _ => fun
  | [d1, d2] => { results := [.lit (.bool false)], args := [d1, d2] }
  | _ => none }
def StockChecksWrongFalsely : Prop := stockChecksRow.holds Tryz.pinned (OpenSpec.ofChange stockChecksWrong)

/-- 'colletlaw29.StockApplies': WHATEVER THE INPUT: true; the input reads as it did. -/
def stockAppliesSpec : ChangeSpec := { name := "stockApplies", fn := fun _ => fun
  | [d1, d2, d3] => { results := [.lit (.bool true)], args := [d1, d2, d3] }
  | _ => none }
def stockAppliesRow : OpenClaim := { program := "ytigadclidanicaagreat", sum := "6c80c3c3ab610641491fec671fd7e67aaf7d2a12b26409f87a8fbf5d131af43c", func := "collet/colletlaw29.StockApplies", spec := "stockApplies", unfollowed := true, recurses := true, plainKeys := false, apart := false }
def StockAppliesSaid : Prop := stockAppliesRow.holds Tryz.pinned (OpenSpec.ofChange stockAppliesSpec)

/-- ITS FALSE NEIGHBOUR: 'it returns false'. Refute it at one input. -/
def stockAppliesWrong : ChangeSpec := { name := "stockApplies", fn := fun _ => fun
  | [d1, d2, d3] => { results := [.lit (.bool false)], args := [d1, d2, d3] }
  | _ => none }
def StockAppliesWrongFalsely : Prop := stockAppliesRow.holds Tryz.pinned (OpenSpec.ofChange stockAppliesWrong)

/-- 'colletlaw29.StockVerdicts': WHATEVER THE INPUT: true; the input reads as it did. -/
def stockVerdictsSpec : ChangeSpec := { name := "stockVerdicts", fn := fun _ => fun
  | [d] => { results := [.lit (.bool true)], args := [d] }
  | _ => none }
def stockVerdictsRow : OpenClaim := { program := "ytigadclidanicaagreat", sum := "6c80c3c3ab610641491fec671fd7e67aaf7d2a12b26409f87a8fbf5d131af43c", func := "collet/colletlaw29.StockVerdicts", spec := "stockVerdicts", unfollowed := true, recurses := true, plainKeys := false, apart := false }
def StockVerdictsSaid : Prop := stockVerdictsRow.holds Tryz.pinned (OpenSpec.ofChange stockVerdictsSpec)

/-- ITS FALSE NEIGHBOUR: 'it returns false'. Refute it at one input. -/
def stockVerdictsWrong : ChangeSpec := { name := "stockVerdicts", fn := fun _ => fun
  | [d] => { results := [.lit (.bool false)], args := [d] }
  | _ => none }
def StockVerdictsWrongFalsely : Prop := stockVerdictsRow.holds Tryz.pinned (OpenSpec.ofChange stockVerdictsWrong)

/-- 'colletlaw29.StockWorlds': WHATEVER THE INPUT: true; the input reads as it did. -/
def stockWorldsSpec : ChangeSpec := { name := "stockWorlds", fn := fun _ => fun
  | [d1, d2] => { results := [.lit (.bool true)], args := [d1, d2] }
  | _ => none }
def stockWorldsRow : OpenClaim := { program := "ytigadclidanicaagreat", sum := "6c80c3c3ab610641491fec671fd7e67aaf7d2a12b26409f87a8fbf5d131af43c", func := "collet/colletlaw29.StockWorlds", spec := "stockWorlds", unfollowed := true, recurses := true, plainKeys := false, apart := false }
def StockWorldsSaid : Prop := stockWorldsRow.holds Tryz.pinned (OpenSpec.ofChange stockWorldsSpec)

/-- ITS FALSE NEIGHBOUR: 'it returns false'. Refute it at one input. -/
def stockWorldsWrong : ChangeSpec := { name := "stockWorlds", fn := fun _ => fun
  | [d1, d2] => { results := [.lit (.bool false)], args := [d1, d2] }
  | _ => none }
def StockWorldsWrongFalsely : Prop := stockWorldsRow.holds Tryz.pinned (OpenSpec.ofChange stockWorldsWrong)

/-- 'colletlaw29.StockGrows': WHATEVER THE INPUT: true; the input reads as it did. -/
def stockGrowsSpec : ChangeSpec := { name := "stockGrows", fn := fun _ => fun
  | [d] => { results := [.lit (.bool true)], args := [d] }
  | _ => none }
def stockGrowsRow : OpenClaim := { program := "ytigadclidanicaagreat", sum := "6c80c3c3ab610641491fec671fd7e67aaf7d2a12b26409f87a8fbf5d131af43c", func := "collet/colletlaw29.StockGrows", spec := "stockGrows", unfollowed := true, recurses := true, plainKeys := false, apart := false }
def StockGrowsSaid : Prop := stockGrowsRow.holds Tryz.pinned (OpenSpec.ofChange stockGrowsSpec)

/-- ITS FALSE NEIGHBOUR: 'it returns false'. Refute it at one input. -/
def stockGrowsWrong : ChangeSpec := { name := "stockGrows", fn := fun _ => fun
  | [d] => { results := [.lit (.bool false)], args := [d] }
  | _ => none }
def StockGrowsWrongFalsely : Prop := stockGrowsRow.holds Tryz.pinned (OpenSpec.ofChange stockGrowsWrong)

/-- 'colletlaw29.StockOnly': WHATEVER THE INPUT: true; the input reads as it did. -/
def stockOnlySpec : ChangeSpec := { name := "stockOnly", fn := fun _ => fun
  | [d1, d2] => { results := [.lit (.bool true)], args := [d1, d2] }
  | _ => none }
def stockOnlyRow : OpenClaim := { program := "ytigadclidanicaagreat", sum := "6c80c3c3ab610641491fec671fd7e67aaf7d2a12b26409f87a8fbf5d131af43c", func := "collet/colletlaw29.StockOnly", spec := "stockOnly", unfollowed := true, recurses := true, plainKeys := false, apart := false }
def StockOnlySaid : Prop := stockOnlyRow.holds Tryz.pinned (OpenSpec.ofChange stockOnlySpec)

/-- ITS FALSE NEIGHBOUR: 'it returns false'. Refute it at one input. -/
def stockOnlyWrong : ChangeSpec := { name := "stockOnly", fn := fun _ => fun
  | [d1, d2] => { results := [.lit (.bool false)], args := [d1, d2] }
  | _ => none }
def StockOnlyWrongFalsely : Prop := stockOnlyRow.holds Tryz.pinned (OpenSpec.ofChange stockOnlyWrong)

/- THE SECOND FORM. 'bulk': how many values and letters a reading holds, each counted each time it is reached (what is shared counts as often as it is met; a slice's spare places count too). A statement '..UptoSaid' is the law's where the arguments, and the package variables that the reading takes, are together of bulk at most 1048576: NARROWER than '..Said'. Prove '..Said' where nothing that the law and all that it calls make is longer than what came in: it says more and counts as full. Else prove '..UptoSaid'. A law counts once. -/
mutual
def uptoBulk {H : Type} : DataW H → Nat
  | .lit (.string bytes) => bytes.length + 1
  | .lit _ => 1
  | .nil => 1
  | .ptr d => uptoBulk d + 1
  | .slice elems spare => uptoBulkAll elems + uptoBulkAll spare + 1
  | .agg parts => uptoBulkAll parts + 1
  | .iface _ d => uptoBulk d + 1
  | .map entries => uptoBulkEntries entries + 1
  | .held _ => 1
def uptoBulkAll {H : Type} : List (DataW H) → Nat
  | [] => 0
  | d :: r => uptoBulk d + uptoBulkAll r
def uptoBulkEntries {H : Type} : List (Lit × DataW H) → Nat
  | [] => 0
  | x :: r => uptoBulkEntry x + uptoBulkEntries r
def uptoBulkEntry {H : Type} : Lit × DataW H → Nat
  | (.string bytes, d) => bytes.length + uptoBulk d + 1
  | (_, d) => uptoBulk d + 1
 end
def uptoSmall : (H : Type) → List (DataW H) → Bool := fun _ ds => decide (uptoBulkAll ds ≤ 1048576)
def OpenSpec.upto (s : _root_.Go.ChangeSpec) : _root_.Go.OpenSpec := { _root_.Go.OpenSpec.ofChange s with cond := some uptoSmall }

/-- 'colletlaw29.StockChecks', WHERE WHAT IT READS IS OF BULK AT MOST 1048576: true; the input reads as it did. -/
def stockChecksUptoRow : OpenClaim := { program := "ytigadclidanicaagreat", sum := "6c80c3c3ab610641491fec671fd7e67aaf7d2a12b26409f87a8fbf5d131af43c", func := "collet/colletlaw29.StockChecks", spec := "stockChecks", unfollowed := true, recurses := true, plainKeys := false, apart := false, narrowed := true }
def StockChecksUptoSaid : Prop := stockChecksUptoRow.holds Tryz.pinned (OpenSpec.upto stockChecksSpec)

/-- 'colletlaw29.StockApplies', WHERE WHAT IT READS IS OF BULK AT MOST 1048576: true; the input reads as it did. -/
def stockAppliesUptoRow : OpenClaim := { program := "ytigadclidanicaagreat", sum := "6c80c3c3ab610641491fec671fd7e67aaf7d2a12b26409f87a8fbf5d131af43c", func := "collet/colletlaw29.StockApplies", spec := "stockApplies", unfollowed := true, recurses := true, plainKeys := false, apart := false, narrowed := true }
def StockAppliesUptoSaid : Prop := stockAppliesUptoRow.holds Tryz.pinned (OpenSpec.upto stockAppliesSpec)

/-- 'colletlaw29.StockVerdicts', WHERE WHAT IT READS IS OF BULK AT MOST 1048576: true; the input reads as it did. -/
def stockVerdictsUptoRow : OpenClaim := { program := "ytigadclidanicaagreat", sum := "6c80c3c3ab610641491fec671fd7e67aaf7d2a12b26409f87a8fbf5d131af43c", func := "collet/colletlaw29.StockVerdicts", spec := "stockVerdicts", unfollowed := true, recurses := true, plainKeys := false, apart := false, narrowed := true }
def StockVerdictsUptoSaid : Prop := stockVerdictsUptoRow.holds Tryz.pinned (OpenSpec.upto stockVerdictsSpec)

/-- 'colletlaw29.StockWorlds', WHERE WHAT IT READS IS OF BULK AT MOST 1048576: true; the input reads as it did. -/
def stockWorldsUptoRow : OpenClaim := { program := "ytigadclidanicaagreat", sum := "6c80c3c3ab610641491fec671fd7e67aaf7d2a12b26409f87a8fbf5d131af43c", func := "collet/colletlaw29.StockWorlds", spec := "stockWorlds", unfollowed := true, recurses := true, plainKeys := false, apart := false, narrowed := true }
def StockWorldsUptoSaid : Prop := stockWorldsUptoRow.holds Tryz.pinned (OpenSpec.upto stockWorldsSpec)

/-- 'colletlaw29.StockGrows', WHERE WHAT IT READS IS OF BULK AT MOST 1048576: true; the input reads as it did. -/
def stockGrowsUptoRow : OpenClaim := { program := "ytigadclidanicaagreat", sum := "6c80c3c3ab610641491fec671fd7e67aaf7d2a12b26409f87a8fbf5d131af43c", func := "collet/colletlaw29.StockGrows", spec := "stockGrows", unfollowed := true, recurses := true, plainKeys := false, apart := false, narrowed := true }
def StockGrowsUptoSaid : Prop := stockGrowsUptoRow.holds Tryz.pinned (OpenSpec.upto stockGrowsSpec)

/-- 'colletlaw29.StockOnly', WHERE WHAT IT READS IS OF BULK AT MOST 1048576: true; the input reads as it did. -/
def stockOnlyUptoRow : OpenClaim := { program := "ytigadclidanicaagreat", sum := "6c80c3c3ab610641491fec671fd7e67aaf7d2a12b26409f87a8fbf5d131af43c", func := "collet/colletlaw29.StockOnly", spec := "stockOnly", unfollowed := true, recurses := true, plainKeys := false, apart := false, narrowed := true }
def StockOnlyUptoSaid : Prop := stockOnlyUptoRow.holds Tryz.pinned (OpenSpec.upto stockOnlySpec)

end Rows
end Go.Proofs.YtigadclidanicaaGreat
