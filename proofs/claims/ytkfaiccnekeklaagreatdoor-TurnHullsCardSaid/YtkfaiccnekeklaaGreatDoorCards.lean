/-
  DERIVED. GIVEN WITH THE SEED: THE CARDS: each row of YtkfaiccnekeklaaGreatDoorRows.lean that lists a variable, with what it lists TIED to the program's text (the seventh form; the later family's looks); each row that meets fmt, with fmt's text TOLD by the authors' own Lean function (tested against real Go, not proved from fmt's source: count such statements apart). THE CARD IS WHAT COUNTS. Prove the row's statement (the work); the ties are given (YtkfaiccnekeklaaGreatDoorTie.lean); close each card by the builder's one call (the guide's Derived/Test/ToyasCard.lean, 'card_holds'). Laid BY PROGRAM, IN A SANDBOX (cutbox-door.mjs). By AI agents, Wed Nov 11 2026. No macro, syntax, notation, axiom, sorry.
-/
import Derived.Test.YtkfaiccnekeklaaGreatDoorRows
import GoSem.ClaimSeven
namespace Go.Proofs.YtkfaiccnekeklaaGreatDoor
namespace Rows

/-- THE TIED CARD OF 'colletlaw11.TurnHulls'. -/
def turnHullsCard : Claim7 := { stood := { row := turnHullsRow, standIns := [], harness := (true, "c50ecc40fdf1356d1a6161ca5119610dafb8a75bcc2dab40e7c25b0db28e8a79"), looks := false }, kinds := [], alts := [], laidByText := true, laidKinds := [.wider], laidTests := true, laidLooks := .later }
def TurnHullsCardSaid : Prop := Claim7.holds Tryz.pinned (.plain (OpenSpec.ofChange turnHullsSpec)) turnHullsCard

/-- THE SECOND FORM's CARD OF 'colletlaw11.TurnHulls'. -/
def turnHullsUptoCard : Claim7 := { stood := { row := turnHullsUptoRow, standIns := [], harness := (true, "c50ecc40fdf1356d1a6161ca5119610dafb8a75bcc2dab40e7c25b0db28e8a79"), looks := false }, kinds := [], alts := [], laidByText := true, laidKinds := [.wider], laidTests := true, laidLooks := .later }
def TurnHullsUptoCardSaid : Prop := Claim7.holds Tryz.pinned (.plain (OpenSpec.upto turnHullsSpec)) turnHullsUptoCard
end Rows
end Go.Proofs.YtkfaiccnekeklaaGreatDoor
