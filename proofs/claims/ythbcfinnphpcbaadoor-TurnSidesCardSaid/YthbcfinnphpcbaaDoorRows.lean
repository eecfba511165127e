/-
  NARROWER THAN 'FOR EVERY INPUT', by the rows' own cells (each row's printed sentence says how): TurnValids: laid · TurnChains: laid · TurnBacks: laid · TurnGroup: laid · TurnMoves: laid · TurnSides: laid.
  DERIVED. THE GIVEN ROWS OF THIS SEAT. 6 by the template 'for every input the law returns true; each argument reads behind the call as it read before'; 0 by the template 'total and deterministic' (their statements: YthbcfinnphpcbaaDoorTotals.lean).
  GIVEN WITH THE SEED: the statements are not yours to turn. If you find one false, say at which input.
  Laid BY PROGRAM, IN A SANDBOX (cutbox-rows.mjs): the forced cells as the released guide's own fill.sh prints them over the translation 0530b8c70156a438… (all of the seat's roots in one cut). By AI agents, Wed Nov 11 2026. No macro, syntax, notation, axiom, sorry.
-/
import Derived.Test.YthbcfinnphpcbaaDoorChecked
import GoSem.Claim
import GoSem.ClaimJoined
import GoSem.ClaimMapViews
import Derived.JoinedTies
import Derived.KernelRfl
namespace Go.Proofs.YthbcfinnphpcbaaDoor
/- THE CELL 'sum', in the pinned program and in every row, IS THE sha256 OF THE DUMP (.gsa) THAT YthbcfinnphpcbaaDoorProg.lean LOADS. Nothing in Lean hashes anything: it is a label: what it is worth is what the hold of that sum in a sandbox is worth. -/
noncomputable def Tryd.pinned : Pinned := { name := "ythbcfinnphpcbaadoor", sum := "0530b8c70156a4386443a1a1e2a8aed393a5228d2b4d4647f98c40c0bb22331a", checked := Tryd.checked }
namespace Rows
def none {H : Type} : Left H := { results := [], args := [] }

/- WHAT THE LISTED PACKAGE-LEVEL VARIABLES READ AS WHEN THE CALL BEGINS. Each datum BY PROGRAM (the guide's laid-datum.mjs) off the statement by which the dump's own 'gosem.cut.vars' lays the variable. In a bare row this is a premise. The card (YthbcfinnphpcbaaDoorCards.lean) ties it to the program's text. -/
def laid_collet_turn_identity {H : Type} : DataW H := .agg [.agg [.lit (.int .i64 1), .lit (.int .i64 0), .lit (.int .i64 0)], .agg [.lit (.int .i64 0), .lit (.int .i64 1), .lit (.int .i64 0)], .agg [.lit (.int .i64 0), .lit (.int .i64 0), .lit (.int .i64 1)]]

/-- 'colletlaw11.TurnValids': WHATEVER THE INPUT: true; the input reads as it did. -/
def turnValidsSpec : ChangeSpec := { name := "turnValids", fn := fun _ => fun
  | [d1, d2, d3] => { results := [.lit (.bool true)], args := [d1, d2, d3] }
  | _ => none }
def turnValidsRow : OpenClaim := { program := "ythbcfinnphpcbaadoor", sum := "0530b8c70156a4386443a1a1e2a8aed393a5228d2b4d4647f98c40c0bb22331a", func := "collet/colletlaw11.TurnValids", spec := "turnValids", unfollowed := true, recurses := true, named := ["collet/turn.identity"], apart := false, laid := [("collet/turn.identity", laid_collet_turn_identity)] }
def TurnValidsSaid : Prop := turnValidsRow.holds Tryd.pinned (OpenSpec.ofChange turnValidsSpec)

/-- ITS FALSE NEIGHBOUR: 'it returns false'. Refute it at one input. -/
def turnValidsWrong : ChangeSpec := { name := "turnValids", fn := fun _ => fun
  | [d1, d2, d3] => { results := [.lit (.bool false)], args := [d1, d2, d3] }
  | _ => none }
def TurnValidsWrongFalsely : Prop := turnValidsRow.holds Tryd.pinned (OpenSpec.ofChange turnValidsWrong)

/-- 'colletlaw11.TurnChains': WHATEVER THE INPUT: true; the input reads as it did. -/
def turnChainsSpec : ChangeSpec := { name := "turnChains", fn := fun _ => fun
  | [d1, d2, d3] => { results := [.lit (.bool true)], args := [d1, d2, d3] }
  | _ => none }
def turnChainsRow : OpenClaim := { program := "ythbcfinnphpcbaadoor", sum := "0530b8c70156a4386443a1a1e2a8aed393a5228d2b4d4647f98c40c0bb22331a", func := "collet/colletlaw11.TurnChains", spec := "turnChains", unfollowed := true, recurses := true, named := ["collet/turn.identity"], apart := false, laid := [("collet/turn.identity", laid_collet_turn_identity)] }
def TurnChainsSaid : Prop := turnChainsRow.holds Tryd.pinned (OpenSpec.ofChange turnChainsSpec)

/-- ITS FALSE NEIGHBOUR: 'it returns false'. Refute it at one input. -/
def turnChainsWrong : ChangeSpec := { name := "turnChains", fn := fun _ => fun
  | [d1, d2, d3] => { results := [.lit (.bool false)], args := [d1, d2, d3] }
  | _ => none }
def TurnChainsWrongFalsely : Prop := turnChainsRow.holds Tryd.pinned (OpenSpec.ofChange turnChainsWrong)

/-- 'colletlaw11.TurnBacks': WHATEVER THE INPUT: true; the input reads as it did. -/
def turnBacksSpec : ChangeSpec := { name := "turnBacks", fn := fun _ => fun
  | [d1, d2] => { results := [.lit (.bool true)], args := [d1, d2] }
  | _ => none }
def turnBacksRow : OpenClaim := { program := "ythbcfinnphpcbaadoor", sum := "0530b8c70156a4386443a1a1e2a8aed393a5228d2b4d4647f98c40c0bb22331a", func := "collet/colletlaw11.TurnBacks", spec := "turnBacks", unfollowed := true, recurses := true, named := ["collet/turn.identity"], apart := false, laid := [("collet/turn.identity", laid_collet_turn_identity)] }
def TurnBacksSaid : Prop := turnBacksRow.holds Tryd.pinned (OpenSpec.ofChange turnBacksSpec)

/-- ITS FALSE NEIGHBOUR: 'it returns false'. Refute it at one input. -/
def turnBacksWrong : ChangeSpec := { name := "turnBacks", fn := fun _ => fun
  | [d1, d2] => { results := [.lit (.bool false)], args := [d1, d2] }
  | _ => none }
def TurnBacksWrongFalsely : Prop := turnBacksRow.holds Tryd.pinned (OpenSpec.ofChange turnBacksWrong)

/-- 'colletlaw11.TurnGroup': WHATEVER THE INPUT: true; the input reads as it did. -/
def turnGroupSpec : ChangeSpec := { name := "turnGroup", fn := fun _ => fun
  | [d] => { results := [.lit (.bool true)], args := [d] }
  | _ => none }
def turnGroupRow : OpenClaim := { program := "ythbcfinnphpcbaadoor", sum := "0530b8c70156a4386443a1a1e2a8aed393a5228d2b4d4647f98c40c0bb22331a", func := "collet/colletlaw11.TurnGroup", spec := "turnGroup", unfollowed := true, recurses := true, named := ["collet/turn.identity"], apart := false, laid := [("collet/turn.identity", laid_collet_turn_identity)] }
def TurnGroupSaid : Prop := turnGroupRow.holds Tryd.pinned (OpenSpec.ofChange turnGroupSpec)

/-- ITS FALSE NEIGHBOUR: 'it returns false'. Refute it at one input. -/
def turnGroupWrong : ChangeSpec := { name := "turnGroup", fn := fun _ => fun
  | [d] => { results := [.lit (.bool false)], args := [d] }
  | _ => none }
def TurnGroupWrongFalsely : Prop := turnGroupRow.holds Tryd.pinned (OpenSpec.ofChange turnGroupWrong)

/-- 'colletlaw11.TurnMoves': WHATEVER THE INPUT: true; the input reads as it did. -/
def turnMovesSpec : ChangeSpec := { name := "turnMoves", fn := fun _ => fun
  | [d1, d2, d3, d4, d5, d6] => { results := [.lit (.bool true)], args := [d1, d2, d3, d4, d5, d6] }
  | _ => none }
def turnMovesRow : OpenClaim := { program := "ythbcfinnphpcbaadoor", sum := "0530b8c70156a4386443a1a1e2a8aed393a5228d2b4d4647f98c40c0bb22331a", func := "collet/colletlaw11.TurnMoves", spec := "turnMoves", unfollowed := true, recurses := true, named := ["collet/turn.identity"], apart := false, laid := [("collet/turn.identity", laid_collet_turn_identity)] }
def TurnMovesSaid : Prop := turnMovesRow.holds Tryd.pinned (OpenSpec.ofChange turnMovesSpec)

/-- ITS FALSE NEIGHBOUR: 'it returns false'. Refute it at one input. -/
def turnMovesWrong : ChangeSpec := { name := "turnMoves", fn := fun _ => fun
  | [d1, d2, d3, d4, d5, d6] => { results := [.lit (.bool false)], args := [d1, d2, d3, d4, d5, d6] }
  | _ => none }
def TurnMovesWrongFalsely : Prop := turnMovesRow.holds Tryd.pinned (OpenSpec.ofChange turnMovesWrong)

/-- 'colletlaw11.TurnSides': WHATEVER THE INPUT: true; the input reads as it did. -/
def turnSidesSpec : ChangeSpec := { name := "turnSides", fn := fun _ => fun
  | [d1, d2, d3] => { results := [.lit (.bool true)], args := [d1, d2, d3] }
  | _ => none }
def turnSidesRow : OpenClaim := { program := "ythbcfinnphpcbaadoor", sum := "0530b8c70156a4386443a1a1e2a8aed393a5228d2b4d4647f98c40c0bb22331a", func := "collet/colletlaw11.TurnSides", spec := "turnSides", unfollowed := true, recurses := true, named := ["collet/turn.identity"], apart := false, laid := [("collet/turn.identity", laid_collet_turn_identity)] }
def TurnSidesSaid : Prop := turnSidesRow.holds Tryd.pinned (OpenSpec.ofChange turnSidesSpec)

/-- ITS FALSE NEIGHBOUR: 'it returns false'. Refute it at one input. -/
def turnSidesWrong : ChangeSpec := { name := "turnSides", fn := fun _ => fun
  | [d1, d2, d3] => { results := [.lit (.bool false)], args := [d1, d2, d3] }
  | _ => none }
def TurnSidesWrongFalsely : Prop := turnSidesRow.holds Tryd.pinned (OpenSpec.ofChange turnSidesWrong)

/- THE SECOND FORM. 'bulk': how many values and letters a reading holds, each counted each time it is reached (what is shared counts as often as it is met; a slice's spare places count too). A statement '..UptoSaid' is the law's where the arguments, and the package variables that the reading takes, are together of bulk at most 1048576: NARROWER than '..Said'. Prove '..Said' where nothing that the law and all that it calls make is longer than what came in: it says more and counts as full. Else prove '..UptoSaid'. A law counts once. -/
mutual
def uptoBulk {H : Type} : DataW H → Nat
  | .lit (.string bytes) => bytes.length + 1
  | .lit _ => 1
  | .nil => 1
  | .ptr d => uptoBulk d + 1
  | .slice elems spare => uptoBulkAll elems + uptoBulkAll spare + 1
  | .agg parts => uptoBulkAll parts + 1
  | .iface _ d => uptoBulk d + 1
  | .map entries => uptoBulkEntries entries + 1
  | .held _ => 1
def uptoBulkAll {H : Type} : List (DataW H) → Nat
  | [] => 0
  | d :: r => uptoBulk d + uptoBulkAll r
def uptoBulkEntries {H : Type} : List (Lit × DataW H) → Nat
  | [] => 0
  | x :: r => uptoBulkEntry x + uptoBulkEntries r
def uptoBulkEntry {H : Type} : Lit × DataW H → Nat
  | (.string bytes, d) => bytes.length + uptoBulk d + 1
  | (_, d) => uptoBulk d + 1
 end
def uptoSmall : (H : Type) → List (DataW H) → Bool := fun _ ds => decide (uptoBulkAll ds ≤ 1048576)
def OpenSpec.upto (s : _root_.Go.ChangeSpec) : _root_.Go.OpenSpec := { _root_.Go.OpenSpec.ofChange s with cond := some uptoSmall }

/-- 'colletlaw11.TurnValids', WHERE WHAT IT READS IS OF BULK AT MOST 1048576: true; the input reads as it did. -/
def turnValidsUptoRow : OpenClaim := { program := "ythbcfinnphpcbaadoor", sum := "0530b8c70156a4386443a1a1e2a8aed393a5228d2b4d4647f98c40c0bb22331a", func := "collet/colletlaw11.TurnValids", spec := "turnValids", unfollowed := true, recurses := true, named := ["collet/turn.identity"], apart := false, laid := [("collet/turn.identity", laid_collet_turn_identity)], narrowed := true }
def TurnValidsUptoSaid : Prop := turnValidsUptoRow.holds Tryd.pinned (OpenSpec.upto turnValidsSpec)

/-- 'colletlaw11.TurnChains', WHERE WHAT IT READS IS OF BULK AT MOST 1048576: true; the input reads as it did. -/
def turnChainsUptoRow : OpenClaim := { program := "ythbcfinnphpcbaadoor", sum := "0530b8c70156a4386443a1a1e2a8aed393a5228d2b4d4647f98c40c0bb22331a", func := "collet/colletlaw11.TurnChains", spec := "turnChains", unfollowed := true, recurses := true, named := ["collet/turn.identity"], apart := false, laid := [("collet/turn.identity", laid_collet_turn_identity)], narrowed := true }
def TurnChainsUptoSaid : Prop := turnChainsUptoRow.holds Tryd.pinned (OpenSpec.upto turnChainsSpec)

/-- 'colletlaw11.TurnBacks', WHERE WHAT IT READS IS OF BULK AT MOST 1048576: true; the input reads as it did. -/
def turnBacksUptoRow : OpenClaim := { program := "ythbcfinnphpcbaadoor", sum := "0530b8c70156a4386443a1a1e2a8aed393a5228d2b4d4647f98c40c0bb22331a", func := "collet/colletlaw11.TurnBacks", spec := "turnBacks", unfollowed := true, recurses := true, named := ["collet/turn.identity"], apart := false, laid := [("collet/turn.identity", laid_collet_turn_identity)], narrowed := true }
def TurnBacksUptoSaid : Prop := turnBacksUptoRow.holds Tryd.pinned (OpenSpec.upto turnBacksSpec)

/-- 'colletlaw11.TurnGroup', WHERE WHAT IT READS IS OF BULK AT MOST 1048576: true; the input reads as it did. -/
def turnGroupUptoRow : OpenClaim := { program := "ythbcfinnphpcbaadoor", sum := "0530b8c70156a4386443a1a1e2a8aed393a5228d2b4d4647f98c40c0bb22331a", func := "collet/colletlaw11.TurnGroup", spec := "turnGroup", unfollowed := true, recurses := true, named := ["collet/turn.identity"], apart := false, laid := [("collet/turn.identity", laid_collet_turn_identity)], narrowed := true }
def TurnGroupUptoSaid : Prop := turnGroupUptoRow.holds Tryd.pinned (OpenSpec.upto turnGroupSpec)

/-- 'colletlaw11.TurnMoves', WHERE WHAT IT READS IS OF BULK AT MOST 1048576: true; the input reads as it did. -/
def turnMovesUptoRow : OpenClaim := { program := "ythbcfinnphpcbaadoor", sum := "0530b8c70156a4386443a1a1e2a8aed393a5228d2b4d4647f98c40c0bb22331a", func := "collet/colletlaw11.TurnMoves", spec := "turnMoves", unfollowed := true, recurses := true, named := ["collet/turn.identity"], apart := false, laid := [("collet/turn.identity", laid_collet_turn_identity)], narrowed := true }
def TurnMovesUptoSaid : Prop := turnMovesUptoRow.holds Tryd.pinned (OpenSpec.upto turnMovesSpec)

/-- 'colletlaw11.TurnSides', WHERE WHAT IT READS IS OF BULK AT MOST 1048576: true; the input reads as it did. -/
def turnSidesUptoRow : OpenClaim := { program := "ythbcfinnphpcbaadoor", sum := "0530b8c70156a4386443a1a1e2a8aed393a5228d2b4d4647f98c40c0bb22331a", func := "collet/colletlaw11.TurnSides", spec := "turnSides", unfollowed := true, recurses := true, named := ["collet/turn.identity"], apart := false, laid := [("collet/turn.identity", laid_collet_turn_identity)], narrowed := true }
def TurnSidesUptoSaid : Prop := turnSidesUptoRow.holds Tryd.pinned (OpenSpec.upto turnSidesSpec)

end Rows
end Go.Proofs.YthbcfinnphpcbaaDoor
