/-
  DERIVED. GIVEN WITH THE SEED: THE CARDS: each row of YthbcfinnphpcbaaDoorRows.lean that lists a variable, with what it lists TIED to the program's text (the seventh form; the later family's looks); each row that meets fmt, with fmt's text TOLD by the authors' own Lean function (tested against real Go, not proved from fmt's source: count such statements apart). THE CARD IS WHAT COUNTS. Prove the row's statement (the work); the ties are given (YthbcfinnphpcbaaDoorTie.lean); close each card by the builder's one call (the guide's Derived/Test/ToyasCard.lean, 'card_holds'). Laid BY PROGRAM, IN A SANDBOX (cutbox-door.mjs). By AI agents, Wed Nov 11 2026. No macro, syntax, notation, axiom, sorry.
-/
import Derived.Test.YthbcfinnphpcbaaDoorRows
import GoSem.ClaimSeven
namespace Go.Proofs.YthbcfinnphpcbaaDoor
namespace Rows

/-- THE TIED CARD OF 'colletlaw11.TurnValids'. -/
def turnValidsCard : Claim7 := { stood := { row := turnValidsRow, standIns := [], harness := (true, "0596624453fb742bd9ee257ce913476c8f0033a48eb633e6f94d0cc93d4574a2"), looks := false }, kinds := [], alts := [], laidByText := true, laidKinds := [.wider], laidTests := true, laidLooks := .later }
def TurnValidsCardSaid : Prop := Claim7.holds Tryd.pinned (.plain (OpenSpec.ofChange turnValidsSpec)) turnValidsCard

/-- THE TIED CARD OF 'colletlaw11.TurnChains'. -/
def turnChainsCard : Claim7 := { stood := { row := turnChainsRow, standIns := [], harness := (true, "0596624453fb742bd9ee257ce913476c8f0033a48eb633e6f94d0cc93d4574a2"), looks := false }, kinds := [], alts := [], laidByText := true, laidKinds := [.wider], laidTests := true, laidLooks := .later }
def TurnChainsCardSaid : Prop := Claim7.holds Tryd.pinned (.plain (OpenSpec.ofChange turnChainsSpec)) turnChainsCard

/-- THE TIED CARD OF 'colletlaw11.TurnBacks'. -/
def turnBacksCard : Claim7 := { stood := { row := turnBacksRow, standIns := [], harness := (true, "0596624453fb742bd9ee257ce913476c8f0033a48eb633e6f94d0cc93d4574a2"), looks := false }, kinds := [], alts := [], laidByText := true, laidKinds := [.wider], laidTests := true, laidLooks := .later }
def TurnBacksCardSaid : Prop := Claim7.holds Tryd.pinned (.plain (OpenSpec.ofChange turnBacksSpec)) turnBacksCard

/-- THE TIED CARD OF 'colletlaw11.TurnGroup'. -/
def turnGroupCard : Claim7 := { stood := { row := turnGroupRow, standIns := [], harness := (true, "0596624453fb742bd9ee257ce913476c8f0033a48eb633e6f94d0cc93d4574a2"), looks := false }, kinds := [], alts := [], laidByText := true, laidKinds := [.wider], laidTests := true, laidLooks := .later }
def TurnGroupCardSaid : Prop := Claim7.holds Tryd.pinned (.plain (OpenSpec.ofChange turnGroupSpec)) turnGroupCard

/-- THE TIED CARD OF 'colletlaw11.TurnMoves'. -/
def turnMovesCard : Claim7 := { stood := { row := turnMovesRow, standIns := [], harness := (true, "0596624453fb742bd9ee257ce913476c8f0033a48eb633e6f94d0cc93d4574a2"), looks := false }, kinds := [], alts := [], laidByText := true, laidKinds := [.wider], laidTests := true, laidLooks := .later }
def TurnMovesCardSaid : Prop := Claim7.holds Tryd.pinned (.plain (OpenSpec.ofChange turnMovesSpec)) turnMovesCard

/-- THE TIED CARD OF 'colletlaw11.TurnSides'. -/
def turnSidesCard : Claim7 := { stood := { row := turnSidesRow, standIns := [], harness := (true, "0596624453fb742bd9ee257ce913476c8f0033a48eb633e6f94d0cc93d4574a2"), looks := false }, kinds := [], alts := [], laidByText := true, laidKinds := [.wider], laidTests := true, laidLooks := .later }
def TurnSidesCardSaid : Prop := Claim7.holds Tryd.pinned (.plain (OpenSpec.ofChange turnSidesSpec)) turnSidesCard

/-- THE SECOND FORM's CARD OF 'colletlaw11.TurnValids'. -/
def turnValidsUptoCard : Claim7 := { stood := { row := turnValidsUptoRow, standIns := [], harness := (true, "0596624453fb742bd9ee257ce913476c8f0033a48eb633e6f94d0cc93d4574a2"), looks := false }, kinds := [], alts := [], laidByText := true, laidKinds := [.wider], laidTests := true, laidLooks := .later }
def TurnValidsUptoCardSaid : Prop := Claim7.holds Tryd.pinned (.plain (OpenSpec.upto turnValidsSpec)) turnValidsUptoCard

/-- THE SECOND FORM's CARD OF 'colletlaw11.TurnChains'. -/
def turnChainsUptoCard : Claim7 := { stood := { row := turnChainsUptoRow, standIns := [], harness := (true, "0596624453fb742bd9ee257ce913476c8f0033a48eb633e6f94d0cc93d4574a2"), looks := false }, kinds := [], alts := [], laidByText := true, laidKinds := [.wider], laidTests := true, laidLooks := .later }
def TurnChainsUptoCardSaid : Prop := Claim7.holds Tryd.pinned (.plain (OpenSpec.upto turnChainsSpec)) turnChainsUptoCard

/-- THE SECOND FORM's CARD OF 'colletlaw11.TurnBacks'. -/
def turnBacksUptoCard : Claim7 := { stood := { row := turnBacksUptoRow, standIns := [], harness := (true, "0596624453fb742bd9ee257ce913476c8f0033a48eb633e6f94d0cc93d4574a2"), looks := false }, kinds := [], alts := [], laidByText := true, laidKinds := [.wider], laidTests := true, laidLooks := .later }
def TurnBacksUptoCardSaid : Prop := Claim7.holds Tryd.pinned (.plain (OpenSpec.upto turnBacksSpec)) turnBacksUptoCard

/-- THE SECOND FORM's CARD OF 'colletlaw11.TurnGroup'. -/
def turnGroupUptoCard : Claim7 := { stood := { row := turnGroupUptoRow, standIns := [], harness := (true, "0596624453fb742bd9ee257ce913476c8f0033a48eb633e6f94d0cc93d4574a2"), looks := false }, kinds := [], alts := [], laidByText := true, laidKinds := [.wider], laidTests := true, laidLooks := .later }
def TurnGroupUptoCardSaid : Prop := Claim7.holds Tryd.pinned (.plain (OpenSpec.upto turnGroupSpec)) turnGroupUptoCard

/-- THE SECOND FORM's CARD OF 'colletlaw11.TurnMoves'. -/
def turnMovesUptoCard : Claim7 := { stood := { row := turnMovesUptoRow, standIns := [], harness := (true, "0596624453fb742bd9ee257ce913476c8f0033a48eb633e6f94d0cc93d4574a2"), looks := false }, kinds := [], alts := [], laidByText := true, laidKinds := [.wider], laidTests := true, laidLooks := .later }
def TurnMovesUptoCardSaid : Prop := Claim7.holds Tryd.pinned (.plain (OpenSpec.upto turnMovesSpec)) turnMovesUptoCard

/-- THE SECOND FORM's CARD OF 'colletlaw11.TurnSides'. -/
def turnSidesUptoCard : Claim7 := { stood := { row := turnSidesUptoRow, standIns := [], harness := (true, "0596624453fb742bd9ee257ce913476c8f0033a48eb633e6f94d0cc93d4574a2"), looks := false }, kinds := [], alts := [], laidByText := true, laidKinds := [.wider], laidTests := true, laidLooks := .later }
def TurnSidesUptoCardSaid : Prop := Claim7.holds Tryd.pinned (.plain (OpenSpec.upto turnSidesSpec)) turnSidesUptoCard
end Rows
end Go.Proofs.YthbcfinnphpcbaaDoor
