/-
  NARROWER THAN 'FOR EVERY INPUT', by the rows' own cells (each row's printed sentence says how): ToolChecks: laid · ToolGrades: laid · ToolRounds: laid · ToolCylinders: laid · ToolWears: laid · ToolNested: laid.
  DERIVED. THE GIVEN ROWS OF THIS SEAT. 6 by the template 'for every input the law returns true; each argument reads behind the call as it read before'; 0 by the template 'total and deterministic' (their statements: YtdigbcehbdiibaaGreatDoorTotals.lean).
  GIVEN WITH THE SEED: the statements are not yours to turn. If you find one false, say at which input.
  Laid BY PROGRAM, IN A SANDBOX (cutbox-rows.mjs): the forced cells as the released guide's own fill.sh prints them over the translation 06101408b4f8259e… (all of the seat's roots in one cut). By AI agents, Wed Nov 11 2026. No macro, syntax, notation, axiom, sorry.
-/
import Derived.Test.YtdigbcehbdiibaaGreatDoorChecked
import GoSem.PinnedTables
import GoSem.Claim
import GoSem.ClaimJoined
import GoSem.ClaimMapViews
import Derived.JoinedTies
import Derived.KernelRfl
namespace Go.Proofs.YtdigbcehbdiibaaGreatDoor
/- THE CELL 'sum', in the pinned program and in every row, IS THE sha256 OF THE DUMP (.gsa) THAT YtdigbcehbdiibaaGreatDoorProg.lean LOADS. Nothing in Lean hashes anything: it is a label: what it is worth is what the hold of that sum in a sandbox is worth. -/
noncomputable def Tryz.pinned : Pinned := { name := "ytdigbcehbdiibaagreatdoor", sum := "06101408b4f8259e9f1ff9d547e96b209bdbe24f94145b7af84ff57b60419282", checked := Tryz.checked }
namespace Rows
def none {H : Type} : Left H := { results := [], args := [] }

/- WHAT THE LISTED PACKAGE-LEVEL VARIABLES READ AS WHEN THE CALL BEGINS. Each datum BY PROGRAM (the guide's laid-datum.mjs) off the statement by which the dump's own 'gosem.cut.vars' lays the variable. In a bare row this is a premise. The card (YtdigbcehbdiibaaGreatDoorCards.lean) ties it to the program's text. -/
def laid_unicode_utf8_acceptRanges {H : Type} : DataW H := .agg [.agg [.lit (.int .u8 128), .lit (.int .u8 191)], .agg [.lit (.int .u8 160), .lit (.int .u8 191)], .agg [.lit (.int .u8 128), .lit (.int .u8 159)], .agg [.lit (.int .u8 144), .lit (.int .u8 191)], .agg [.lit (.int .u8 128), .lit (.int .u8 143)], .agg [.lit (.int .u8 0), .lit (.int .u8 0)], .agg [.lit (.int .u8 0), .lit (.int .u8 0)], .agg [.lit (.int .u8 0), .lit (.int .u8 0)], .agg [.lit (.int .u8 0), .lit (.int .u8 0)], .agg [.lit (.int .u8 0), .lit (.int .u8 0)], .agg [.lit (.int .u8 0), .lit (.int .u8 0)], .agg [.lit (.int .u8 0), .lit (.int .u8 0)], .agg [.lit (.int .u8 0), .lit (.int .u8 0)], .agg [.lit (.int .u8 0), .lit (.int .u8 0)], .agg [.lit (.int .u8 0), .lit (.int .u8 0)], .agg [.lit (.int .u8 0), .lit (.int .u8 0)]]
/-- One of Go's own tables, pinned by name: the form's constant. -/
def laid_unicode_utf8_first : DataW Unit := Go.Pinned.utf8First

/-- 'colletlaw14.ToolChecks': WHATEVER THE INPUT: true; the input reads as it did. -/
def toolChecksSpec : ChangeSpec := { name := "toolChecks", fn := fun _ => fun
  | [d1, d2, d3] => { results := [.lit (.bool true)], args := [d1, d2, d3] }
  | _ => none }
def toolChecksRow : OpenClaim := { program := "ytdigbcehbdiibaagreatdoor", sum := "06101408b4f8259e9f1ff9d547e96b209bdbe24f94145b7af84ff57b60419282", func := "collet/colletlaw14.ToolChecks", spec := "toolChecks", inPlace := ["internal/bytealg.IndexByteString", "internal/bytealg.IndexString"], unfollowed := true, recurses := true, named := ["unicode/utf8.first", "unicode/utf8.acceptRanges", "internal/bytealg.MaxLen"], plainKeys := false, apart := false, laid := [("unicode/utf8.acceptRanges", laid_unicode_utf8_acceptRanges), ("unicode/utf8.first", laid_unicode_utf8_first)] }
def ToolChecksSaid : Prop := toolChecksRow.holds Tryz.pinned (OpenSpec.ofChange toolChecksSpec)

/-- ITS FALSE NEIGHBOUR: 'it returns false'. Refute it at one input. -/
def toolChecksWrong : ChangeSpec := { name := "toolChecks", fn := fun _ => fun
  | [d1, d2, d3] => { results := [.lit (.bool false)], args := [d1, d2, d3] }
  | _ => none }
def ToolChecksWrongFalsely : Prop := toolChecksRow.holds Tryz.pinned (OpenSpec.ofChange toolChecksWrong)

/-- 'colletlaw14.ToolGrades': WHATEVER THE INPUT: true; the input reads as it did. -/
def toolGradesSpec : ChangeSpec := { name := "toolGrades", fn := fun _ => fun
  | [d1, d2, d3] => { results := [.lit (.bool true)], args := [d1, d2, d3] }
  | _ => none }
def toolGradesRow : OpenClaim := { program := "ytdigbcehbdiibaagreatdoor", sum := "06101408b4f8259e9f1ff9d547e96b209bdbe24f94145b7af84ff57b60419282", func := "collet/colletlaw14.ToolGrades", spec := "toolGrades", inPlace := ["internal/bytealg.IndexByteString", "internal/bytealg.IndexString"], unfollowed := true, recurses := true, named := ["unicode/utf8.first", "unicode/utf8.acceptRanges", "internal/bytealg.MaxLen"], plainKeys := false, apart := false, laid := [("unicode/utf8.acceptRanges", laid_unicode_utf8_acceptRanges), ("unicode/utf8.first", laid_unicode_utf8_first)] }
def ToolGradesSaid : Prop := toolGradesRow.holds Tryz.pinned (OpenSpec.ofChange toolGradesSpec)

/-- ITS FALSE NEIGHBOUR: 'it returns false'. Refute it at one input. -/
def toolGradesWrong : ChangeSpec := { name := "toolGrades", fn := fun _ => fun
  | [d1, d2, d3] => { results := [.lit (.bool false)], args := [d1, d2, d3] }
  | _ => none }
def ToolGradesWrongFalsely : Prop := toolGradesRow.holds Tryz.pinned (OpenSpec.ofChange toolGradesWrong)

/-- 'colletlaw14.ToolRounds': WHATEVER THE INPUT: true; the input reads as it did. -/
def toolRoundsSpec : ChangeSpec := { name := "toolRounds", fn := fun _ => fun
  | [d1, d2] => { results := [.lit (.bool true)], args := [d1, d2] }
  | _ => none }
def toolRoundsRow : OpenClaim := { program := "ytdigbcehbdiibaagreatdoor", sum := "06101408b4f8259e9f1ff9d547e96b209bdbe24f94145b7af84ff57b60419282", func := "collet/colletlaw14.ToolRounds", spec := "toolRounds", inPlace := ["internal/bytealg.IndexByteString", "internal/bytealg.IndexString"], unfollowed := true, recurses := true, named := ["unicode/utf8.first", "unicode/utf8.acceptRanges", "internal/bytealg.MaxLen"], plainKeys := false, apart := false, laid := [("unicode/utf8.acceptRanges", laid_unicode_utf8_acceptRanges), ("unicode/utf8.first", laid_unicode_utf8_first)] }
def ToolRoundsSaid : Prop := toolRoundsRow.holds Tryz.pinned (OpenSpec.ofChange toolRoundsSpec)

/-- ITS FALSE NEIGHBOUR: 'it returns false'. Refute it at one input. -/
def toolRoundsWrong : ChangeSpec := { name := "toolRounds", fn := fun _ => fun
  | [d1, d2] => { results := [.lit (.bool false)], args := [d1, d2] }
  | _ => none }
def ToolRoundsWrongFalsely : Prop := toolRoundsRow.holds Tryz.pinned (OpenSpec.ofChange toolRoundsWrong)

/-- 'colletlaw14.ToolCylinders': WHATEVER THE INPUT: true; the input reads as it did. -/
def toolCylindersSpec : ChangeSpec := { name := "toolCylinders", fn := fun _ => fun
  | [d1, d2, d3] => { results := [.lit (.bool true)], args := [d1, d2, d3] }
  | _ => none }
def toolCylindersRow : OpenClaim := { program := "ytdigbcehbdiibaagreatdoor", sum := "06101408b4f8259e9f1ff9d547e96b209bdbe24f94145b7af84ff57b60419282", func := "collet/colletlaw14.ToolCylinders", spec := "toolCylinders", inPlace := ["internal/bytealg.IndexByteString", "internal/bytealg.IndexString"], unfollowed := true, recurses := true, named := ["unicode/utf8.first", "unicode/utf8.acceptRanges", "internal/bytealg.MaxLen"], plainKeys := false, apart := false, laid := [("unicode/utf8.acceptRanges", laid_unicode_utf8_acceptRanges), ("unicode/utf8.first", laid_unicode_utf8_first)] }
def ToolCylindersSaid : Prop := toolCylindersRow.holds Tryz.pinned (OpenSpec.ofChange toolCylindersSpec)

/-- ITS FALSE NEIGHBOUR: 'it returns false'. Refute it at one input. -/
def toolCylindersWrong : ChangeSpec := { name := "toolCylinders", fn := fun _ => fun
  | [d1, d2, d3] => { results := [.lit (.bool false)], args := [d1, d2, d3] }
  | _ => none }
def ToolCylindersWrongFalsely : Prop := toolCylindersRow.holds Tryz.pinned (OpenSpec.ofChange toolCylindersWrong)

/-- 'colletlaw14.ToolWears': WHATEVER THE INPUT: true; the input reads as it did. -/
def toolWearsSpec : ChangeSpec := { name := "toolWears", fn := fun _ => fun
  | [d1, d2] => { results := [.lit (.bool true)], args := [d1, d2] }
  | _ => none }
def toolWearsRow : OpenClaim := { program := "ytdigbcehbdiibaagreatdoor", sum := "06101408b4f8259e9f1ff9d547e96b209bdbe24f94145b7af84ff57b60419282", func := "collet/colletlaw14.ToolWears", spec := "toolWears", inPlace := ["internal/bytealg.IndexByteString", "internal/bytealg.IndexString"], unfollowed := true, recurses := true, named := ["unicode/utf8.first", "unicode/utf8.acceptRanges", "internal/bytealg.MaxLen"], plainKeys := false, apart := false, laid := [("unicode/utf8.acceptRanges", laid_unicode_utf8_acceptRanges), ("unicode/utf8.first", laid_unicode_utf8_first)] }
def ToolWearsSaid : Prop := toolWearsRow.holds Tryz.pinned (OpenSpec.ofChange toolWearsSpec)

/-- ITS FALSE NEIGHBOUR: 'it returns false'. Refute it at one input. -/
def toolWearsWrong : ChangeSpec := { name := "toolWears", fn := fun _ => fun
  | [d1, d2] => { results := [.lit (.bool false)], args := [d1, d2] }
  | _ => none }
def ToolWearsWrongFalsely : Prop := toolWearsRow.holds Tryz.pinned (OpenSpec.ofChange toolWearsWrong)

/-- 'colletlaw14.ToolNested': WHATEVER THE INPUT: true; the input reads as it did. -/
def toolNestedSpec : ChangeSpec := { name := "toolNested", fn := fun _ => fun
  | [d1, d2, d3] => { results := [.lit (.bool true)], args := [d1, d2, d3] }
  | _ => none }
def toolNestedRow : OpenClaim := { program := "ytdigbcehbdiibaagreatdoor", sum := "06101408b4f8259e9f1ff9d547e96b209bdbe24f94145b7af84ff57b60419282", func := "collet/colletlaw14.ToolNested", spec := "toolNested", inPlace := ["internal/bytealg.IndexByteString", "internal/bytealg.IndexString"], unfollowed := true, recurses := true, named := ["unicode/utf8.first", "unicode/utf8.acceptRanges", "internal/bytealg.MaxLen"], plainKeys := false, apart := false, laid := [("unicode/utf8.acceptRanges", laid_unicode_utf8_acceptRanges), ("unicode/utf8.first", laid_unicode_utf8_first)] }
def ToolNestedSaid : Prop := toolNestedRow.holds Tryz.pinned (OpenSpec.ofChange toolNestedSpec)

/-- ITS FALSE NEIGHBOUR: 'it returns false'. Refute it at one input. -/
def toolNestedWrong : ChangeSpec := { name := "toolNested", fn := fun _ => fun
  | [d1, d2, d3] => { results := [.lit (.bool false)], args := [d1, d2, d3] }
  | _ => none }
def ToolNestedWrongFalsely : Prop := toolNestedRow.holds Tryz.pinned (OpenSpec.ofChange toolNestedWrong)

/- THE SECOND FORM. 'bulk': how many values and letters a reading holds, each counted each time it is reached (what is shared counts as often as it is met; a slice's spare places count too). A statement '..UptoSaid' is the law's where the arguments, and the package variables that the reading takes, are together of bulk at most 1048576: NARROWER than '..Said'. Prove '..Said' where nothing that the law and all that it calls make is longer than what came in: it says more and counts as full. Else prove '..UptoSaid'. A law counts once. -/
mutual
def uptoBulk {H : Type} : DataW H → Nat
  | .lit (.string bytes) => bytes.length + 1
  | .lit _ => 1
  | .nil => 1
  | .ptr d => uptoBulk d + 1
  | .slice elems spare => uptoBulkAll elems + uptoBulkAll spare + 1
  | .agg parts => uptoBulkAll parts + 1
  | .iface _ d => uptoBulk d + 1
  | .map entries => uptoBulkEntries entries + 1
  | .held _ => 1
def uptoBulkAll {H : Type} : List (DataW H) → Nat
  | [] => 0
  | d :: r => uptoBulk d + uptoBulkAll r
def uptoBulkEntries {H : Type} : List (Lit × DataW H) → Nat
  | [] => 0
  | x :: r => uptoBulkEntry x + uptoBulkEntries r
def uptoBulkEntry {H : Type} : Lit × DataW H → Nat
  | (.string bytes, d) => bytes.length + uptoBulk d + 1
  | (_, d) => uptoBulk d + 1
 end
def uptoSmall : (H : Type) → List (DataW H) → Bool := fun _ ds => decide (uptoBulkAll ds ≤ 1048576)
def OpenSpec.upto (s : _root_.Go.ChangeSpec) : _root_.Go.OpenSpec := { _root_.Go.OpenSpec.ofChange s with cond := some uptoSmall }

/-- 'colletlaw14.ToolChecks', WHERE WHAT IT READS IS OF BULK AT MOST 1048576: true; the input reads as it did. -/
def toolChecksUptoRow : OpenClaim := { program := "ytdigbcehbdiibaagreatdoor", sum := "06101408b4f8259e9f1ff9d547e96b209bdbe24f94145b7af84ff57b60419282", func := "collet/colletlaw14.ToolChecks", spec := "toolChecks", inPlace := ["internal/bytealg.IndexByteString", "internal/bytealg.IndexString"], unfollowed := true, recurses := true, named := ["unicode/utf8.first", "unicode/utf8.acceptRanges", "internal/bytealg.MaxLen"], plainKeys := false, apart := false, laid := [("unicode/utf8.acceptRanges", laid_unicode_utf8_acceptRanges), ("unicode/utf8.first", laid_unicode_utf8_first)], narrowed := true }
def ToolChecksUptoSaid : Prop := toolChecksUptoRow.holds Tryz.pinned (OpenSpec.upto toolChecksSpec)

/-- 'colletlaw14.ToolGrades', WHERE WHAT IT READS IS OF BULK AT MOST 1048576: true; the input reads as it did. -/
def toolGradesUptoRow : OpenClaim := { program := "ytdigbcehbdiibaagreatdoor", sum := "06101408b4f8259e9f1ff9d547e96b209bdbe24f94145b7af84ff57b60419282", func := "collet/colletlaw14.ToolGrades", spec := "toolGrades", inPlace := ["internal/bytealg.IndexByteString", "internal/bytealg.IndexString"], unfollowed := true, recurses := true, named := ["unicode/utf8.first", "unicode/utf8.acceptRanges", "internal/bytealg.MaxLen"], plainKeys := false, apart := false, laid := [("unicode/utf8.acceptRanges", laid_unicode_utf8_acceptRanges), ("unicode/utf8.first", laid_unicode_utf8_first)], narrowed := true }
def ToolGradesUptoSaid : Prop := toolGradesUptoRow.holds Tryz.pinned (OpenSpec.upto toolGradesSpec)

/-- 'colletlaw14.ToolRounds', WHERE WHAT IT READS IS OF BULK AT MOST 1048576: true; the input reads as it did. -/
def toolRoundsUptoRow : OpenClaim := { program := "ytdigbcehbdiibaagreatdoor", sum := "06101408b4f8259e9f1ff9d547e96b209bdbe24f94145b7af84ff57b60419282", func := "collet/colletlaw14.ToolRounds", spec := "toolRounds", inPlace := ["internal/bytealg.IndexByteString", "internal/bytealg.IndexString"], unfollowed := true, recurses := true, named := ["unicode/utf8.first", "unicode/utf8.acceptRanges", "internal/bytealg.MaxLen"], plainKeys := false, apart := false, laid := [("unicode/utf8.acceptRanges", laid_unicode_utf8_acceptRanges), ("unicode/utf8.first", laid_unicode_utf8_first)], narrowed := true }
def ToolRoundsUptoSaid : Prop := toolRoundsUptoRow.holds Tryz.pinned (OpenSpec.upto toolRoundsSpec)

/-- 'colletlaw14.ToolCylinders', WHERE WHAT IT READS IS OF BULK AT MOST 1048576: true; the input reads as it did. -/
def toolCylindersUptoRow : OpenClaim := { program := "ytdigbcehbdiibaagreatdoor", sum := "06101408b4f8259e9f1ff9d547e96b209bdbe24f94145b7af84ff57b60419282", func := "collet/colletlaw14.ToolCylinders", spec := "toolCylinders", inPlace := ["internal/bytealg.IndexByteString", "internal/bytealg.IndexString"], unfollowed := true, recurses := true, named := ["unicode/utf8.first", "unicode/utf8.acceptRanges", "internal/bytealg.MaxLen"], plainKeys := false, apart := false, laid := [("unicode/utf8.acceptRanges", laid_unicode_utf8_acceptRanges), ("unicode/utf8.first", laid_unicode_utf8_first)], narrowed := true }
def ToolCylindersUptoSaid : Prop := toolCylindersUptoRow.holds Tryz.pinned (OpenSpec.upto toolCylindersSpec)

/-- 'colletlaw14.ToolWears', WHERE WHAT IT READS IS OF BULK AT MOST 1048576: true; the input reads as it did. -/
def toolWearsUptoRow : OpenClaim := { program := "ytdigbcehbdiibaagreatdoor", sum := "06101408b4f8259e9f1ff9d547e96b209bdbe24f94145b7af84ff57b60419282", func := "collet/colletlaw14.ToolWears", spec := "toolWears", inPlace := ["internal/bytealg.IndexByteString", "internal/bytealg.IndexString"], unfollowed := true, recurses := true, named := ["unicode/utf8.first", "unicode/utf8.acceptRanges", "internal/bytealg.MaxLen"], plainKeys := false, apart := false, laid := [("unicode/utf8.acceptRanges", laid_unicode_utf8_acceptRanges), ("unicode/utf8.first", laid_unicode_utf8_first)], narrowed := true }
def ToolWearsUptoSaid : Prop := toolWearsUptoRow.holds Tryz.pinned (OpenSpec.upto toolWearsSpec)

/-- 'colletlaw14.ToolNested', WHERE WHAT IT READS IS OF BULK AT MOST 1048576: true; the input reads as it did. -/
def toolNestedUptoRow : OpenClaim := { program := "ytdigbcehbdiibaagreatdoor", sum := "06101408b4f8259e9f1ff9d547e96b209bdbe24f94145b7af84ff57b60419282", func := "collet/colletlaw14.ToolNested", spec := "toolNested", inPlace := ["internal/bytealg.IndexByteString", "internal/bytealg.IndexString"], unfollowed := true, recurses := true, named := ["unicode/utf8.first", "unicode/utf8.acceptRanges", "internal/bytealg.MaxLen"], plainKeys := false, apart := false, laid := [("unicode/utf8.acceptRanges", laid_unicode_utf8_acceptRanges), ("unicode/utf8.first", laid_unicode_utf8_first)], narrowed := true }
def ToolNestedUptoSaid : Prop := toolNestedUptoRow.holds Tryz.pinned (OpenSpec.upto toolNestedSpec)

end Rows
end Go.Proofs.YtdigbcehbdiibaaGreatDoor
