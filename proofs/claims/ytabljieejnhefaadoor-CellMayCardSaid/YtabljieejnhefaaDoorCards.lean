/-
  DERIVED. GIVEN WITH THE SEED: THE CARDS: each row of YtabljieejnhefaaDoorRows.lean that lists a variable, with what it lists TIED to the program's text (the seventh form; the later family's looks); each row that meets fmt, with fmt's text TOLD by the authors' own Lean function (tested against real Go, not proved from fmt's source: count such statements apart). THE CARD IS WHAT COUNTS. Prove the row's statement (the work); the ties are given (YtabljieejnhefaaDoorTie.lean); close each card by the builder's one call (the guide's Derived/Test/ToyasCard.lean, 'card_holds'). Laid BY PROGRAM, IN A SANDBOX (cutbox-door.mjs). By AI agents, Wed Nov 11 2026. No macro, syntax, notation, axiom, sorry.
-/
import Derived.Test.YtabljieejnhefaaDoorRows
import GoSem.ClaimSeven
namespace Go.Proofs.YtabljieejnhefaaDoor
namespace Rows

/-- THE TIED CARD OF 'tiklaw6.CellTells'. -/
def cellTellsCard : Claim7 := { stood := { row := cellTellsRow, standIns := [], harness := (true, "6e57ca313662791ac993ba089ae52e085b1fdc9c4ca9993429dd2c818f592292"), looks := false }, kinds := [], alts := [], laidByText := true, laidKinds := [.widerDeep, .widerDeep], laidTests := true, laidLooks := .later }
def CellTellsCardSaid : Prop := Claim7.holds Tryd.pinned (.plain (OpenSpec.ofChange cellTellsSpec)) cellTellsCard

/-- THE TIED CARD OF 'tiklaw6.CellMay'. -/
def cellMayCard : Claim7 := { stood := { row := cellMayRow, standIns := [], harness := (true, "6e57ca313662791ac993ba089ae52e085b1fdc9c4ca9993429dd2c818f592292"), looks := false }, kinds := [], alts := [], laidByText := true, laidKinds := [.widerDeep, .widerDeep], laidTests := true, laidLooks := .later }
def CellMayCardSaid : Prop := Claim7.holds Tryd.pinned (.plain (OpenSpec.ofChange cellMaySpec)) cellMayCard

/-- THE TIED CARD OF 'tiklaw6.CellColours'. -/
def cellColoursCard : Claim7 := { stood := { row := cellColoursRow, standIns := [], harness := (true, "6e57ca313662791ac993ba089ae52e085b1fdc9c4ca9993429dd2c818f592292"), looks := false }, kinds := [], alts := [], laidByText := true, laidKinds := [.widerDeep, .widerDeep], laidTests := true, laidLooks := .later }
def CellColoursCardSaid : Prop := Claim7.holds Tryd.pinned (.plain (OpenSpec.ofChange cellColoursSpec)) cellColoursCard

/-- THE SECOND FORM's CARD OF 'tiklaw6.CellTells'. -/
def cellTellsUptoCard : Claim7 := { stood := { row := cellTellsUptoRow, standIns := [], harness := (true, "6e57ca313662791ac993ba089ae52e085b1fdc9c4ca9993429dd2c818f592292"), looks := false }, kinds := [], alts := [], laidByText := true, laidKinds := [.widerDeep, .widerDeep], laidTests := true, laidLooks := .later }
def CellTellsUptoCardSaid : Prop := Claim7.holds Tryd.pinned (.plain (OpenSpec.upto cellTellsSpec)) cellTellsUptoCard

/-- THE SECOND FORM's CARD OF 'tiklaw6.CellMay'. -/
def cellMayUptoCard : Claim7 := { stood := { row := cellMayUptoRow, standIns := [], harness := (true, "6e57ca313662791ac993ba089ae52e085b1fdc9c4ca9993429dd2c818f592292"), looks := false }, kinds := [], alts := [], laidByText := true, laidKinds := [.widerDeep, .widerDeep], laidTests := true, laidLooks := .later }
def CellMayUptoCardSaid : Prop := Claim7.holds Tryd.pinned (.plain (OpenSpec.upto cellMaySpec)) cellMayUptoCard

/-- THE SECOND FORM's CARD OF 'tiklaw6.CellColours'. -/
def cellColoursUptoCard : Claim7 := { stood := { row := cellColoursUptoRow, standIns := [], harness := (true, "6e57ca313662791ac993ba089ae52e085b1fdc9c4ca9993429dd2c818f592292"), looks := false }, kinds := [], alts := [], laidByText := true, laidKinds := [.widerDeep, .widerDeep], laidTests := true, laidLooks := .later }
def CellColoursUptoCardSaid : Prop := Claim7.holds Tryd.pinned (.plain (OpenSpec.upto cellColoursSpec)) cellColoursUptoCard
end Rows
end Go.Proofs.YtabljieejnhefaaDoor
