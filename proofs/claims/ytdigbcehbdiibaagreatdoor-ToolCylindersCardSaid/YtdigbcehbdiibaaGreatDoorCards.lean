/-
  DERIVED. GIVEN WITH THE SEED: THE CARDS: each row of YtdigbcehbdiibaaGreatDoorRows.lean that lists a variable, with what it lists TIED to the program's text (the seventh form; the later family's looks); each row that meets fmt, with fmt's text TOLD by the authors' own Lean function (tested against real Go, not proved from fmt's source: count such statements apart). THE CARD IS WHAT COUNTS. Prove the row's statement (the work); the ties are given (YtdigbcehbdiibaaGreatDoorTie.lean); close each card by the builder's one call (the guide's Derived/Test/ToyasCard.lean, 'card_holds'). Laid BY PROGRAM, IN A SANDBOX (cutbox-door.mjs). By AI agents, Wed Nov 11 2026. No macro, syntax, notation, axiom, sorry.
-/
import Derived.Test.YtdigbcehbdiibaaGreatDoorRows
import GoSem.ClaimSeven
namespace Go.Proofs.YtdigbcehbdiibaaGreatDoor
namespace Rows

/-- THE TIED CARD OF 'colletlaw14.ToolChecks'. -/
def toolChecksCard : Claim7 := { stood := { row := toolChecksRow, standIns := [], harness := (true, "89ccace189cfd9dd6d270d43fd4626893b324ed7995a2e8a13ea5f0fbbbc3f0a"), looks := false }, kinds := [], alts := [], laidByText := true, laidKinds := [.data, .pinned], laidTests := true, laidLooks := .later }
def ToolChecksCardSaid : Prop := Claim7.holds Tryz.pinned (.plain (OpenSpec.ofChange toolChecksSpec)) toolChecksCard

/-- THE TIED CARD OF 'colletlaw14.ToolGrades'. -/
def toolGradesCard : Claim7 := { stood := { row := toolGradesRow, standIns := [], harness := (true, "89ccace189cfd9dd6d270d43fd4626893b324ed7995a2e8a13ea5f0fbbbc3f0a"), looks := false }, kinds := [], alts := [], laidByText := true, laidKinds := [.data, .pinned], laidTests := true, laidLooks := .later }
def ToolGradesCardSaid : Prop := Claim7.holds Tryz.pinned (.plain (OpenSpec.ofChange toolGradesSpec)) toolGradesCard

/-- THE TIED CARD OF 'colletlaw14.ToolRounds'. -/
def toolRoundsCard : Claim7 := { stood := { row := toolRoundsRow, standIns := [], harness := (true, "89ccace189cfd9dd6d270d43fd4626893b324ed7995a2e8a13ea5f0fbbbc3f0a"), looks := false }, kinds := [], alts := [], laidByText := true, laidKinds := [.data, .pinned], laidTests := true, laidLooks := .later }
def ToolRoundsCardSaid : Prop := Claim7.holds Tryz.pinned (.plain (OpenSpec.ofChange toolRoundsSpec)) toolRoundsCard

/-- THE TIED CARD OF 'colletlaw14.ToolCylinders'. -/
def toolCylindersCard : Claim7 := { stood := { row := toolCylindersRow, standIns := [], harness := (true, "89ccace189cfd9dd6d270d43fd4626893b324ed7995a2e8a13ea5f0fbbbc3f0a"), looks := false }, kinds := [], alts := [], laidByText := true, laidKinds := [.data, .pinned], laidTests := true, laidLooks := .later }
def ToolCylindersCardSaid : Prop := Claim7.holds Tryz.pinned (.plain (OpenSpec.ofChange toolCylindersSpec)) toolCylindersCard

/-- THE TIED CARD OF 'colletlaw14.ToolWears'. -/
def toolWearsCard : Claim7 := { stood := { row := toolWearsRow, standIns := [], harness := (true, "89ccace189cfd9dd6d270d43fd4626893b324ed7995a2e8a13ea5f0fbbbc3f0a"), looks := false }, kinds := [], alts := [], laidByText := true, laidKinds := [.data, .pinned], laidTests := true, laidLooks := .later }
def ToolWearsCardSaid : Prop := Claim7.holds Tryz.pinned (.plain (OpenSpec.ofChange toolWearsSpec)) toolWearsCard

/-- THE TIED CARD OF 'colletlaw14.ToolNested'. -/
def toolNestedCard : Claim7 := { stood := { row := toolNestedRow, standIns := [], harness := (true, "89ccace189cfd9dd6d270d43fd4626893b324ed7995a2e8a13ea5f0fbbbc3f0a"), looks := false }, kinds := [], alts := [], laidByText := true, laidKinds := [.data, .pinned], laidTests := true, laidLooks := .later }
def ToolNestedCardSaid : Prop := Claim7.holds Tryz.pinned (.plain (OpenSpec.ofChange toolNestedSpec)) toolNestedCard

/-- THE SECOND FORM's CARD OF 'colletlaw14.ToolChecks'. -/
def toolChecksUptoCard : Claim7 := { stood := { row := toolChecksUptoRow, standIns := [], harness := (true, "89ccace189cfd9dd6d270d43fd4626893b324ed7995a2e8a13ea5f0fbbbc3f0a"), looks := false }, kinds := [], alts := [], laidByText := true, laidKinds := [.data, .pinned], laidTests := true, laidLooks := .later }
def ToolChecksUptoCardSaid : Prop := Claim7.holds Tryz.pinned (.plain (OpenSpec.upto toolChecksSpec)) toolChecksUptoCard

/-- THE SECOND FORM's CARD OF 'colletlaw14.ToolGrades'. -/
def toolGradesUptoCard : Claim7 := { stood := { row := toolGradesUptoRow, standIns := [], harness := (true, "89ccace189cfd9dd6d270d43fd4626893b324ed7995a2e8a13ea5f0fbbbc3f0a"), looks := false }, kinds := [], alts := [], laidByText := true, laidKinds := [.data, .pinned], laidTests := true, laidLooks := .later }
def ToolGradesUptoCardSaid : Prop := Claim7.holds Tryz.pinned (.plain (OpenSpec.upto toolGradesSpec)) toolGradesUptoCard

/-- THE SECOND FORM's CARD OF 'colletlaw14.ToolRounds'. -/
def toolRoundsUptoCard : Claim7 := { stood := { row := toolRoundsUptoRow, standIns := [], harness := (true, "89ccace189cfd9dd6d270d43fd4626893b324ed7995a2e8a13ea5f0fbbbc3f0a"), looks := false }, kinds := [], alts := [], laidByText := true, laidKinds := [.data, .pinned], laidTests := true, laidLooks := .later }
def ToolRoundsUptoCardSaid : Prop := Claim7.holds Tryz.pinned (.plain (OpenSpec.upto toolRoundsSpec)) toolRoundsUptoCard

/-- THE SECOND FORM's CARD OF 'colletlaw14.ToolCylinders'. -/
def toolCylindersUptoCard : Claim7 := { stood := { row := toolCylindersUptoRow, standIns := [], harness := (true, "89ccace189cfd9dd6d270d43fd4626893b324ed7995a2e8a13ea5f0fbbbc3f0a"), looks := false }, kinds := [], alts := [], laidByText := true, laidKinds := [.data, .pinned], laidTests := true, laidLooks := .later }
def ToolCylindersUptoCardSaid : Prop := Claim7.holds Tryz.pinned (.plain (OpenSpec.upto toolCylindersSpec)) toolCylindersUptoCard

/-- THE SECOND FORM's CARD OF 'colletlaw14.ToolWears'. -/
def toolWearsUptoCard : Claim7 := { stood := { row := toolWearsUptoRow, standIns := [], harness := (true, "89ccace189cfd9dd6d270d43fd4626893b324ed7995a2e8a13ea5f0fbbbc3f0a"), looks := false }, kinds := [], alts := [], laidByText := true, laidKinds := [.data, .pinned], laidTests := true, laidLooks := .later }
def ToolWearsUptoCardSaid : Prop := Claim7.holds Tryz.pinned (.plain (OpenSpec.upto toolWearsSpec)) toolWearsUptoCard

/-- THE SECOND FORM's CARD OF 'colletlaw14.ToolNested'. -/
def toolNestedUptoCard : Claim7 := { stood := { row := toolNestedUptoRow, standIns := [], harness := (true, "89ccace189cfd9dd6d270d43fd4626893b324ed7995a2e8a13ea5f0fbbbc3f0a"), looks := false }, kinds := [], alts := [], laidByText := true, laidKinds := [.data, .pinned], laidTests := true, laidLooks := .later }
def ToolNestedUptoCardSaid : Prop := Claim7.holds Tryz.pinned (.plain (OpenSpec.upto toolNestedSpec)) toolNestedUptoCard
end Rows
end Go.Proofs.YtdigbcehbdiibaaGreatDoor
