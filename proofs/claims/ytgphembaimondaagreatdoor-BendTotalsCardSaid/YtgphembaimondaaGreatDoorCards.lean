/-
  DERIVED. GIVEN WITH THE SEED: THE CARDS: each row of YtgphembaimondaaGreatDoorRows.lean that lists a variable, with what it lists TIED to the program's text (the seventh form; the later family's looks); each row that meets fmt, with fmt's text TOLD by the authors' own Lean function (tested against real Go, not proved from fmt's source: count such statements apart). THE CARD IS WHAT COUNTS. Prove the row's statement (the work); the ties are given (YtgphembaimondaaGreatDoorTie.lean); close each card by the builder's one call (the guide's Derived/Test/ToyasCard.lean, 'card_holds'). Laid BY PROGRAM, IN A SANDBOX (cutbox-door.mjs). By AI agents, Wed Nov 11 2026. No macro, syntax, notation, axiom, sorry.
-/
import Derived.Test.YtgphembaimondaaGreatDoorRows
import GoSem.ClaimSeven
namespace Go.Proofs.YtgphembaimondaaGreatDoor
namespace Rows

/-- THE TIED CARD OF 'colletlaw24.BendForms'. -/
def bendFormsCard : Claim7 := { stood := { row := bendFormsRow, standIns := [], harness := (true, "e34c365af470db3857e9c65e2b13c0d56ee457ebd1cbd49ad653fb55d8fb3277"), looks := false }, kinds := [], alts := [], laidByText := true, laidKinds := [.data, .pinned], laidTests := true, laidLooks := .later }
def BendFormsCardSaid : Prop := Claim7.holds Tryz.pinned (.plain (OpenSpec.ofChange bendFormsSpec)) bendFormsCard

/-- THE TIED CARD OF 'colletlaw24.BendLeast'. -/
def bendLeastCard : Claim7 := { stood := { row := bendLeastRow, standIns := [], harness := (true, "e34c365af470db3857e9c65e2b13c0d56ee457ebd1cbd49ad653fb55d8fb3277"), looks := false }, kinds := [], alts := [], laidByText := true, laidKinds := [.data, .pinned], laidTests := true, laidLooks := .later }
def BendLeastCardSaid : Prop := Claim7.holds Tryz.pinned (.plain (OpenSpec.ofChange bendLeastSpec)) bendLeastCard

/-- THE TIED CARD OF 'colletlaw24.BendTotals'. -/
def bendTotalsCard : Claim7 := { stood := { row := bendTotalsRow, standIns := [], harness := (true, "e34c365af470db3857e9c65e2b13c0d56ee457ebd1cbd49ad653fb55d8fb3277"), looks := false }, kinds := [], alts := [], laidByText := true, laidKinds := [.data, .pinned], laidTests := true, laidLooks := .later }
def BendTotalsCardSaid : Prop := Claim7.holds Tryz.pinned (.plain (OpenSpec.ofChange bendTotalsSpec)) bendTotalsCard

/-- THE SECOND FORM's CARD OF 'colletlaw24.BendForms'. -/
def bendFormsUptoCard : Claim7 := { stood := { row := bendFormsUptoRow, standIns := [], harness := (true, "e34c365af470db3857e9c65e2b13c0d56ee457ebd1cbd49ad653fb55d8fb3277"), looks := false }, kinds := [], alts := [], laidByText := true, laidKinds := [.data, .pinned], laidTests := true, laidLooks := .later }
def BendFormsUptoCardSaid : Prop := Claim7.holds Tryz.pinned (.plain (OpenSpec.upto bendFormsSpec)) bendFormsUptoCard

/-- THE SECOND FORM's CARD OF 'colletlaw24.BendLeast'. -/
def bendLeastUptoCard : Claim7 := { stood := { row := bendLeastUptoRow, standIns := [], harness := (true, "e34c365af470db3857e9c65e2b13c0d56ee457ebd1cbd49ad653fb55d8fb3277"), looks := false }, kinds := [], alts := [], laidByText := true, laidKinds := [.data, .pinned], laidTests := true, laidLooks := .later }
def BendLeastUptoCardSaid : Prop := Claim7.holds Tryz.pinned (.plain (OpenSpec.upto bendLeastSpec)) bendLeastUptoCard

/-- THE SECOND FORM's CARD OF 'colletlaw24.BendTotals'. -/
def bendTotalsUptoCard : Claim7 := { stood := { row := bendTotalsUptoRow, standIns := [], harness := (true, "e34c365af470db3857e9c65e2b13c0d56ee457ebd1cbd49ad653fb55d8fb3277"), looks := false }, kinds := [], alts := [], laidByText := true, laidKinds := [.data, .pinned], laidTests := true, laidLooks := .later }
def BendTotalsUptoCardSaid : Prop := Claim7.holds Tryz.pinned (.plain (OpenSpec.upto bendTotalsSpec)) bendTotalsUptoCard
end Rows
end Go.Proofs.YtgphembaimondaaGreatDoor
