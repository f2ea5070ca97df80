/-
  DERIVED. GIVEN WITH THE SEED: THE CARDS: each row of YtlgfmmkabnbllaaDoorRows.lean that lists a variable, with what it lists TIED to the program's text (the seventh form; the later family's looks); each row that meets fmt, with fmt's text TOLD by the authors' own Lean function (tested against real Go, not proved from fmt's source: count such statements apart). THE CARD IS WHAT COUNTS. Prove the row's statement (the work); the ties are given (YtlgfmmkabnbllaaDoorTie.lean); close each card by the builder's one call (the guide's Derived/Test/ToyasCard.lean, 'card_holds'). Laid BY PROGRAM, IN A SANDBOX (cutbox-door.mjs). By AI agents, Wed Nov 11 2026. No macro, syntax, notation, axiom, sorry.
-/
import Derived.Test.YtlgfmmkabnbllaaDoorRows
import GoSem.ClaimSeven
namespace Go.Proofs.YtlgfmmkabnbllaaDoor
namespace Rows

/-- THE TIED CARD OF 'tiklaw23.DeckPlays'. -/
def deckPlaysCard : Claim7 := { stood := { row := deckPlaysRow, standIns := [], harness := (true, "f4cce56c052b8147ed0d96dfe40f3886e39b5e64f551fd0da9ae368612f96104"), looks := true }, kinds := [], alts := [], laidByText := true, laidKinds := [.data], laidTests := true, laidLooks := .later }
def DeckPlaysCardSaid : Prop := Claim7.holds Tryd.pinned (.plain (OpenSpec.ofChange deckPlaysSpec)) deckPlaysCard

/-- THE TIED CARD OF 'tiklaw23.DeckForward'. -/
def deckForwardCard : Claim7 := { stood := { row := deckForwardRow, standIns := [], harness := (true, "f4cce56c052b8147ed0d96dfe40f3886e39b5e64f551fd0da9ae368612f96104"), looks := true }, kinds := [], alts := [], laidByText := true, laidKinds := [.data], laidTests := true, laidLooks := .later }
def DeckForwardCardSaid : Prop := Claim7.holds Tryd.pinned (.plain (OpenSpec.ofChange deckForwardSpec)) deckForwardCard

/-- THE TIED CARD OF 'tiklaw23.DeckStands'. -/
def deckStandsCard : Claim7 := { stood := { row := deckStandsRow, standIns := [], harness := (true, "f4cce56c052b8147ed0d96dfe40f3886e39b5e64f551fd0da9ae368612f96104"), looks := true }, kinds := [], alts := [], laidByText := true, laidKinds := [.data], laidTests := true, laidLooks := .later }
def DeckStandsCardSaid : Prop := Claim7.holds Tryd.pinned (.plain (OpenSpec.ofChange deckStandsSpec)) deckStandsCard

/-- THE TIED CARD OF 'tiklaw23.DeckRates'. -/
def deckRatesCard : Claim7 := { stood := { row := deckRatesRow, standIns := [], harness := (true, "f4cce56c052b8147ed0d96dfe40f3886e39b5e64f551fd0da9ae368612f96104"), looks := true }, kinds := [], alts := [], laidByText := true, laidKinds := [.data], laidTests := true, laidLooks := .later }
def DeckRatesCardSaid : Prop := Claim7.holds Tryd.pinned (.plain (OpenSpec.ofChange deckRatesSpec)) deckRatesCard

/-- THE TIED CARD OF 'tiklaw23.DeckAir'. -/
def deckAirCard : Claim7 := { stood := { row := deckAirRow, standIns := [], harness := (true, "f4cce56c052b8147ed0d96dfe40f3886e39b5e64f551fd0da9ae368612f96104"), looks := true }, kinds := [], alts := [], laidByText := true, laidKinds := [.data], laidTests := true, laidLooks := .later }
def DeckAirCardSaid : Prop := Claim7.holds Tryd.pinned (.plain (OpenSpec.ofChange deckAirSpec)) deckAirCard

/-- THE TIED CARD OF 'tiklaw16.SegTells'. -/
def segTellsCard : Claim7 := { stood := { row := segTellsRow, standIns := [], harness := (true, "f4cce56c052b8147ed0d96dfe40f3886e39b5e64f551fd0da9ae368612f96104"), looks := true }, kinds := [], alts := [], laidByText := true, laidKinds := [.data, .data, .data], laidTests := true, laidLooks := .later }
def SegTellsCardSaid : Prop := Claim7.holds Tryd.pinned (.plain (OpenSpec.ofChange segTellsSpec)) segTellsCard

/-- THE TIED CARD OF 'tiklaw16.SegNames'. -/
def segNamesCard : Claim7 := { stood := { row := segNamesRow, standIns := [], harness := (true, "f4cce56c052b8147ed0d96dfe40f3886e39b5e64f551fd0da9ae368612f96104"), looks := true }, kinds := [], alts := [], laidByText := true, laidKinds := [.data, .data, .data], laidTests := true, laidLooks := .later }
def SegNamesCardSaid : Prop := Claim7.holds Tryd.pinned (.plain (OpenSpec.ofChange segNamesSpec)) segNamesCard

/-- THE TIED CARD OF 'tiklaw16.SegBack'. -/
def segBackCard : Claim7 := { stood := { row := segBackRow, standIns := [], harness := (true, "f4cce56c052b8147ed0d96dfe40f3886e39b5e64f551fd0da9ae368612f96104"), looks := true }, kinds := [], alts := [], laidByText := true, laidKinds := [.data, .data, .data], laidTests := true, laidLooks := .later }
def SegBackCardSaid : Prop := Claim7.holds Tryd.pinned (.plain (OpenSpec.ofChange segBackSpec)) segBackCard

/-- THE TIED CARD OF 'tiklaw16.SegStops'. -/
def segStopsCard : Claim7 := { stood := { row := segStopsRow, standIns := [], harness := (true, "f4cce56c052b8147ed0d96dfe40f3886e39b5e64f551fd0da9ae368612f96104"), looks := true }, kinds := [], alts := [], laidByText := true, laidKinds := [.data, .data, .data], laidTests := true, laidLooks := .later }
def SegStopsCardSaid : Prop := Claim7.holds Tryd.pinned (.plain (OpenSpec.ofChange segStopsSpec)) segStopsCard

/-- THE SECOND FORM's CARD OF 'tiklaw23.DeckPlays'. -/
def deckPlaysUptoCard : Claim7 := { stood := { row := deckPlaysUptoRow, standIns := [], harness := (true, "f4cce56c052b8147ed0d96dfe40f3886e39b5e64f551fd0da9ae368612f96104"), looks := true }, kinds := [], alts := [], laidByText := true, laidKinds := [.data], laidTests := true, laidLooks := .later }
def DeckPlaysUptoCardSaid : Prop := Claim7.holds Tryd.pinned (.plain (OpenSpec.upto deckPlaysSpec)) deckPlaysUptoCard

/-- THE SECOND FORM's CARD OF 'tiklaw23.DeckForward'. -/
def deckForwardUptoCard : Claim7 := { stood := { row := deckForwardUptoRow, standIns := [], harness := (true, "f4cce56c052b8147ed0d96dfe40f3886e39b5e64f551fd0da9ae368612f96104"), looks := true }, kinds := [], alts := [], laidByText := true, laidKinds := [.data], laidTests := true, laidLooks := .later }
def DeckForwardUptoCardSaid : Prop := Claim7.holds Tryd.pinned (.plain (OpenSpec.upto deckForwardSpec)) deckForwardUptoCard

/-- THE SECOND FORM's CARD OF 'tiklaw23.DeckStands'. -/
def deckStandsUptoCard : Claim7 := { stood := { row := deckStandsUptoRow, standIns := [], harness := (true, "f4cce56c052b8147ed0d96dfe40f3886e39b5e64f551fd0da9ae368612f96104"), looks := true }, kinds := [], alts := [], laidByText := true, laidKinds := [.data], laidTests := true, laidLooks := .later }
def DeckStandsUptoCardSaid : Prop := Claim7.holds Tryd.pinned (.plain (OpenSpec.upto deckStandsSpec)) deckStandsUptoCard

/-- THE SECOND FORM's CARD OF 'tiklaw23.DeckRates'. -/
def deckRatesUptoCard : Claim7 := { stood := { row := deckRatesUptoRow, standIns := [], harness := (true, "f4cce56c052b8147ed0d96dfe40f3886e39b5e64f551fd0da9ae368612f96104"), looks := true }, kinds := [], alts := [], laidByText := true, laidKinds := [.data], laidTests := true, laidLooks := .later }
def DeckRatesUptoCardSaid : Prop := Claim7.holds Tryd.pinned (.plain (OpenSpec.upto deckRatesSpec)) deckRatesUptoCard

/-- THE SECOND FORM's CARD OF 'tiklaw23.DeckAir'. -/
def deckAirUptoCard : Claim7 := { stood := { row := deckAirUptoRow, standIns := [], harness := (true, "f4cce56c052b8147ed0d96dfe40f3886e39b5e64f551fd0da9ae368612f96104"), looks := true }, kinds := [], alts := [], laidByText := true, laidKinds := [.data], laidTests := true, laidLooks := .later }
def DeckAirUptoCardSaid : Prop := Claim7.holds Tryd.pinned (.plain (OpenSpec.upto deckAirSpec)) deckAirUptoCard

/-- THE SECOND FORM's CARD OF 'tiklaw16.SegTells'. -/
def segTellsUptoCard : Claim7 := { stood := { row := segTellsUptoRow, standIns := [], harness := (true, "f4cce56c052b8147ed0d96dfe40f3886e39b5e64f551fd0da9ae368612f96104"), looks := true }, kinds := [], alts := [], laidByText := true, laidKinds := [.data, .data, .data], laidTests := true, laidLooks := .later }
def SegTellsUptoCardSaid : Prop := Claim7.holds Tryd.pinned (.plain (OpenSpec.upto segTellsSpec)) segTellsUptoCard

/-- THE SECOND FORM's CARD OF 'tiklaw16.SegNames'. -/
def segNamesUptoCard : Claim7 := { stood := { row := segNamesUptoRow, standIns := [], harness := (true, "f4cce56c052b8147ed0d96dfe40f3886e39b5e64f551fd0da9ae368612f96104"), looks := true }, kinds := [], alts := [], laidByText := true, laidKinds := [.data, .data, .data], laidTests := true, laidLooks := .later }
def SegNamesUptoCardSaid : Prop := Claim7.holds Tryd.pinned (.plain (OpenSpec.upto segNamesSpec)) segNamesUptoCard

/-- THE SECOND FORM's CARD OF 'tiklaw16.SegBack'. -/
def segBackUptoCard : Claim7 := { stood := { row := segBackUptoRow, standIns := [], harness := (true, "f4cce56c052b8147ed0d96dfe40f3886e39b5e64f551fd0da9ae368612f96104"), looks := true }, kinds := [], alts := [], laidByText := true, laidKinds := [.data, .data, .data], laidTests := true, laidLooks := .later }
def SegBackUptoCardSaid : Prop := Claim7.holds Tryd.pinned (.plain (OpenSpec.upto segBackSpec)) segBackUptoCard

/-- THE SECOND FORM's CARD OF 'tiklaw16.SegStops'. -/
def segStopsUptoCard : Claim7 := { stood := { row := segStopsUptoRow, standIns := [], harness := (true, "f4cce56c052b8147ed0d96dfe40f3886e39b5e64f551fd0da9ae368612f96104"), looks := true }, kinds := [], alts := [], laidByText := true, laidKinds := [.data, .data, .data], laidTests := true, laidLooks := .later }
def SegStopsUptoCardSaid : Prop := Claim7.holds Tryd.pinned (.plain (OpenSpec.upto segStopsSpec)) segStopsUptoCard
end Rows
end Go.Proofs.YtlgfmmkabnbllaaDoor
