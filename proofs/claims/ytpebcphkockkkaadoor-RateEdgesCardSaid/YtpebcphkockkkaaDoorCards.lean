/-
  DERIVED. GIVEN WITH THE SEED: THE CARDS: each row of YtpebcphkockkkaaDoorRows.lean that lists a variable, with what it lists TIED to the program's text (the seventh form; the later family's looks); each row that meets fmt, with fmt's text TOLD by the authors' own Lean function (tested against real Go, not proved from fmt's source: count such statements apart). THE CARD IS WHAT COUNTS. Prove the row's statement (the work); the ties are given (YtpebcphkockkkaaDoorTie.lean); close each card by the builder's one call (the guide's Derived/Test/ToyasCard.lean, 'card_holds'). Laid BY PROGRAM, IN A SANDBOX (cutbox-door.mjs). By AI agents, Wed Nov 11 2026. No macro, syntax, notation, axiom, sorry.
-/
import Derived.Test.YtpebcphkockkkaaDoorRows
import GoSem.ClaimSeven
namespace Go.Proofs.YtpebcphkockkkaaDoor
namespace Rows

/-- THE TIED CARD OF 'tiklaw1.RateOf'. -/
def rateOfCard : Claim7 := { stood := { row := rateOfRow, standIns := [], harness := (true, "115b7268131bdcbf406e2c3976ff2e6e4d281639f56a2a6580d33a7e950c11fc"), looks := false }, kinds := [], alts := [], laidByText := true, laidKinds := [.data], laidTests := true, laidLooks := .later }
def RateOfCardSaid : Prop := Claim7.holds Tryd.pinned (.plain (OpenSpec.ofChange rateOfSpec)) rateOfCard

/-- THE TIED CARD OF 'tiklaw1.RateOrder'. -/
def rateOrderCard : Claim7 := { stood := { row := rateOrderRow, standIns := [], harness := (true, "115b7268131bdcbf406e2c3976ff2e6e4d281639f56a2a6580d33a7e950c11fc"), looks := false }, kinds := [], alts := [], laidByText := true, laidKinds := [.data], laidTests := true, laidLooks := .later }
def RateOrderCardSaid : Prop := Claim7.holds Tryd.pinned (.plain (OpenSpec.ofChange rateOrderSpec)) rateOrderCard

/-- THE TIED CARD OF 'tiklaw1.RateStands'. -/
def rateStandsCard : Claim7 := { stood := { row := rateStandsRow, standIns := [], harness := (true, "115b7268131bdcbf406e2c3976ff2e6e4d281639f56a2a6580d33a7e950c11fc"), looks := false }, kinds := [], alts := [], laidByText := true, laidKinds := [.data], laidTests := true, laidLooks := .later }
def RateStandsCardSaid : Prop := Claim7.holds Tryd.pinned (.plain (OpenSpec.ofChange rateStandsSpec)) rateStandsCard

/-- THE TIED CARD OF 'tiklaw1.RateScales'. -/
def rateScalesCard : Claim7 := { stood := { row := rateScalesRow, standIns := [], harness := (true, "115b7268131bdcbf406e2c3976ff2e6e4d281639f56a2a6580d33a7e950c11fc"), looks := false }, kinds := [], alts := [], laidByText := true, laidKinds := [.data], laidTests := true, laidLooks := .later }
def RateScalesCardSaid : Prop := Claim7.holds Tryd.pinned (.plain (OpenSpec.ofChange rateScalesSpec)) rateScalesCard

/-- THE TIED CARD OF 'tiklaw1.RateBack'. -/
def rateBackCard : Claim7 := { stood := { row := rateBackRow, standIns := [], harness := (true, "115b7268131bdcbf406e2c3976ff2e6e4d281639f56a2a6580d33a7e950c11fc"), looks := false }, kinds := [], alts := [], laidByText := true, laidKinds := [.data], laidTests := true, laidLooks := .later }
def RateBackCardSaid : Prop := Claim7.holds Tryd.pinned (.plain (OpenSpec.ofChange rateBackSpec)) rateBackCard

/-- THE TIED CARD OF 'tiklaw1.RateEdges'. -/
def rateEdgesCard : Claim7 := { stood := { row := rateEdgesRow, standIns := [], harness := (true, "115b7268131bdcbf406e2c3976ff2e6e4d281639f56a2a6580d33a7e950c11fc"), looks := false }, kinds := [], alts := [], laidByText := true, laidKinds := [.data], laidTests := true, laidLooks := .later }
def RateEdgesCardSaid : Prop := Claim7.holds Tryd.pinned (.plain (OpenSpec.ofChange rateEdgesSpec)) rateEdgesCard

/-- THE TIED CARD OF 'tiklaw1.RateSeconds'. -/
def rateSecondsCard : Claim7 := { stood := { row := rateSecondsRow, standIns := [], harness := (true, "115b7268131bdcbf406e2c3976ff2e6e4d281639f56a2a6580d33a7e950c11fc"), looks := false }, kinds := [], alts := [], laidByText := true, laidKinds := [.data], laidTests := true, laidLooks := .later }
def RateSecondsCardSaid : Prop := Claim7.holds Tryd.pinned (.plain (OpenSpec.ofChange rateSecondsSpec)) rateSecondsCard

/-- THE TIED CARD OF 'tiklaw1.RateTicks'. -/
def rateTicksCard : Claim7 := { stood := { row := rateTicksRow, standIns := [], harness := (true, "115b7268131bdcbf406e2c3976ff2e6e4d281639f56a2a6580d33a7e950c11fc"), looks := false }, kinds := [], alts := [], laidByText := true, laidKinds := [.data], laidTests := true, laidLooks := .later }
def RateTicksCardSaid : Prop := Claim7.holds Tryd.pinned (.plain (OpenSpec.ofChange rateTicksSpec)) rateTicksCard

/-- THE SECOND FORM's CARD OF 'tiklaw1.RateOf'. -/
def rateOfUptoCard : Claim7 := { stood := { row := rateOfUptoRow, standIns := [], harness := (true, "115b7268131bdcbf406e2c3976ff2e6e4d281639f56a2a6580d33a7e950c11fc"), looks := false }, kinds := [], alts := [], laidByText := true, laidKinds := [.data], laidTests := true, laidLooks := .later }
def RateOfUptoCardSaid : Prop := Claim7.holds Tryd.pinned (.plain (OpenSpec.upto rateOfSpec)) rateOfUptoCard

/-- THE SECOND FORM's CARD OF 'tiklaw1.RateOrder'. -/
def rateOrderUptoCard : Claim7 := { stood := { row := rateOrderUptoRow, standIns := [], harness := (true, "115b7268131bdcbf406e2c3976ff2e6e4d281639f56a2a6580d33a7e950c11fc"), looks := false }, kinds := [], alts := [], laidByText := true, laidKinds := [.data], laidTests := true, laidLooks := .later }
def RateOrderUptoCardSaid : Prop := Claim7.holds Tryd.pinned (.plain (OpenSpec.upto rateOrderSpec)) rateOrderUptoCard

/-- THE SECOND FORM's CARD OF 'tiklaw1.RateStands'. -/
def rateStandsUptoCard : Claim7 := { stood := { row := rateStandsUptoRow, standIns := [], harness := (true, "115b7268131bdcbf406e2c3976ff2e6e4d281639f56a2a6580d33a7e950c11fc"), looks := false }, kinds := [], alts := [], laidByText := true, laidKinds := [.data], laidTests := true, laidLooks := .later }
def RateStandsUptoCardSaid : Prop := Claim7.holds Tryd.pinned (.plain (OpenSpec.upto rateStandsSpec)) rateStandsUptoCard

/-- THE SECOND FORM's CARD OF 'tiklaw1.RateScales'. -/
def rateScalesUptoCard : Claim7 := { stood := { row := rateScalesUptoRow, standIns := [], harness := (true, "115b7268131bdcbf406e2c3976ff2e6e4d281639f56a2a6580d33a7e950c11fc"), looks := false }, kinds := [], alts := [], laidByText := true, laidKinds := [.data], laidTests := true, laidLooks := .later }
def RateScalesUptoCardSaid : Prop := Claim7.holds Tryd.pinned (.plain (OpenSpec.upto rateScalesSpec)) rateScalesUptoCard

/-- THE SECOND FORM's CARD OF 'tiklaw1.RateBack'. -/
def rateBackUptoCard : Claim7 := { stood := { row := rateBackUptoRow, standIns := [], harness := (true, "115b7268131bdcbf406e2c3976ff2e6e4d281639f56a2a6580d33a7e950c11fc"), looks := false }, kinds := [], alts := [], laidByText := true, laidKinds := [.data], laidTests := true, laidLooks := .later }
def RateBackUptoCardSaid : Prop := Claim7.holds Tryd.pinned (.plain (OpenSpec.upto rateBackSpec)) rateBackUptoCard

/-- THE SECOND FORM's CARD OF 'tiklaw1.RateEdges'. -/
def rateEdgesUptoCard : Claim7 := { stood := { row := rateEdgesUptoRow, standIns := [], harness := (true, "115b7268131bdcbf406e2c3976ff2e6e4d281639f56a2a6580d33a7e950c11fc"), looks := false }, kinds := [], alts := [], laidByText := true, laidKinds := [.data], laidTests := true, laidLooks := .later }
def RateEdgesUptoCardSaid : Prop := Claim7.holds Tryd.pinned (.plain (OpenSpec.upto rateEdgesSpec)) rateEdgesUptoCard

/-- THE SECOND FORM's CARD OF 'tiklaw1.RateSeconds'. -/
def rateSecondsUptoCard : Claim7 := { stood := { row := rateSecondsUptoRow, standIns := [], harness := (true, "115b7268131bdcbf406e2c3976ff2e6e4d281639f56a2a6580d33a7e950c11fc"), looks := false }, kinds := [], alts := [], laidByText := true, laidKinds := [.data], laidTests := true, laidLooks := .later }
def RateSecondsUptoCardSaid : Prop := Claim7.holds Tryd.pinned (.plain (OpenSpec.upto rateSecondsSpec)) rateSecondsUptoCard

/-- THE SECOND FORM's CARD OF 'tiklaw1.RateTicks'. -/
def rateTicksUptoCard : Claim7 := { stood := { row := rateTicksUptoRow, standIns := [], harness := (true, "115b7268131bdcbf406e2c3976ff2e6e4d281639f56a2a6580d33a7e950c11fc"), looks := false }, kinds := [], alts := [], laidByText := true, laidKinds := [.data], laidTests := true, laidLooks := .later }
def RateTicksUptoCardSaid : Prop := Claim7.holds Tryd.pinned (.plain (OpenSpec.upto rateTicksSpec)) rateTicksUptoCard
end Rows
end Go.Proofs.YtpebcphkockkkaaDoor
