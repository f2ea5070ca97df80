/-
  DERIVED. GIVEN WITH THE SEED: THE CARDS: each row of YtcfndcjbgalnpaaDoorRows.lean that lists a variable, with what it lists TIED to the program's text (the seventh form; the later family's looks); each row that meets fmt, with fmt's text TOLD by the authors' own Lean function (tested against real Go, not proved from fmt's source: count such statements apart). THE CARD IS WHAT COUNTS. Prove the row's statement (the work); the ties are given (YtcfndcjbgalnpaaDoorTie.lean); close each card by the builder's one call (the guide's Derived/Test/ToyasCard.lean, 'card_holds'). Laid BY PROGRAM, IN A SANDBOX (cutbox-door.mjs). By AI agents, Wed Nov 11 2026. No macro, syntax, notation, axiom, sorry.
-/
import Derived.Test.YtcfndcjbgalnpaaDoorRows
import GoSem.ClaimSeven
namespace Go.Proofs.YtcfndcjbgalnpaaDoor
namespace Rows

/-- THE TIED CARD OF 'tiklaw7.GridWide'. -/
def gridWideCard : Claim7 := { stood := { row := gridWideRow, standIns := [], harness := (true, "ca0710d70087c425407d5f24a5c1d77675f1fa9d97279af84f4c8bf68714d07d"), looks := false }, kinds := [], alts := [], laidByText := true, laidKinds := [.widerDeep, .widerDeep], laidTests := true, laidLooks := .later }
def GridWideCardSaid : Prop := Claim7.holds Tryd.pinned (.plain (OpenSpec.ofChange gridWideSpec)) gridWideCard

/-- THE TIED CARD OF 'tiklaw7.GridSizes'. -/
def gridSizesCard : Claim7 := { stood := { row := gridSizesRow, standIns := [], harness := (true, "ca0710d70087c425407d5f24a5c1d77675f1fa9d97279af84f4c8bf68714d07d"), looks := false }, kinds := [], alts := [], laidByText := true, laidKinds := [.widerDeep, .widerDeep], laidTests := true, laidLooks := .later }
def GridSizesCardSaid : Prop := Claim7.holds Tryd.pinned (.plain (OpenSpec.ofChange gridSizesSpec)) gridSizesCard

/-- THE TIED CARD OF 'tiklaw7.GridScrolls'. -/
def gridScrollsCard : Claim7 := { stood := { row := gridScrollsRow, standIns := [], harness := (true, "ca0710d70087c425407d5f24a5c1d77675f1fa9d97279af84f4c8bf68714d07d"), looks := false }, kinds := [], alts := [], laidByText := true, laidKinds := [.widerDeep, .widerDeep], laidTests := true, laidLooks := .later }
def GridScrollsCardSaid : Prop := Claim7.holds Tryd.pinned (.plain (OpenSpec.ofChange gridScrollsSpec)) gridScrollsCard

/-- THE TIED CARD OF 'tiklaw7.GridShifts'. -/
def gridShiftsCard : Claim7 := { stood := { row := gridShiftsRow, standIns := [], harness := (true, "ca0710d70087c425407d5f24a5c1d77675f1fa9d97279af84f4c8bf68714d07d"), looks := false }, kinds := [], alts := [], laidByText := true, laidKinds := [.widerDeep, .widerDeep], laidTests := true, laidLooks := .later }
def GridShiftsCardSaid : Prop := Claim7.holds Tryd.pinned (.plain (OpenSpec.ofChange gridShiftsSpec)) gridShiftsCard

/-- THE TIED CARD OF 'tiklaw7.GridPairs'. -/
def gridPairsCard : Claim7 := { stood := { row := gridPairsRow, standIns := [], harness := (true, "ca0710d70087c425407d5f24a5c1d77675f1fa9d97279af84f4c8bf68714d07d"), looks := false }, kinds := [], alts := [], laidByText := true, laidKinds := [.widerDeep, .widerDeep], laidTests := true, laidLooks := .later }
def GridPairsCardSaid : Prop := Claim7.holds Tryd.pinned (.plain (OpenSpec.ofChange gridPairsSpec)) gridPairsCard

/-- THE TIED CARD OF 'tiklaw7.GridPlays'. -/
def gridPlaysCard : Claim7 := { stood := { row := gridPlaysRow, standIns := [], harness := (true, "ca0710d70087c425407d5f24a5c1d77675f1fa9d97279af84f4c8bf68714d07d"), looks := false }, kinds := [], alts := [], laidByText := true, laidKinds := [.widerDeep, .widerDeep], laidTests := true, laidLooks := .later }
def GridPlaysCardSaid : Prop := Claim7.holds Tryd.pinned (.plain (OpenSpec.ofChange gridPlaysSpec)) gridPlaysCard

/-- THE SECOND FORM's CARD OF 'tiklaw7.GridWide'. -/
def gridWideUptoCard : Claim7 := { stood := { row := gridWideUptoRow, standIns := [], harness := (true, "ca0710d70087c425407d5f24a5c1d77675f1fa9d97279af84f4c8bf68714d07d"), looks := false }, kinds := [], alts := [], laidByText := true, laidKinds := [.widerDeep, .widerDeep], laidTests := true, laidLooks := .later }
def GridWideUptoCardSaid : Prop := Claim7.holds Tryd.pinned (.plain (OpenSpec.upto gridWideSpec)) gridWideUptoCard

/-- THE SECOND FORM's CARD OF 'tiklaw7.GridSizes'. -/
def gridSizesUptoCard : Claim7 := { stood := { row := gridSizesUptoRow, standIns := [], harness := (true, "ca0710d70087c425407d5f24a5c1d77675f1fa9d97279af84f4c8bf68714d07d"), looks := false }, kinds := [], alts := [], laidByText := true, laidKinds := [.widerDeep, .widerDeep], laidTests := true, laidLooks := .later }
def GridSizesUptoCardSaid : Prop := Claim7.holds Tryd.pinned (.plain (OpenSpec.upto gridSizesSpec)) gridSizesUptoCard

/-- THE SECOND FORM's CARD OF 'tiklaw7.GridScrolls'. -/
def gridScrollsUptoCard : Claim7 := { stood := { row := gridScrollsUptoRow, standIns := [], harness := (true, "ca0710d70087c425407d5f24a5c1d77675f1fa9d97279af84f4c8bf68714d07d"), looks := false }, kinds := [], alts := [], laidByText := true, laidKinds := [.widerDeep, .widerDeep], laidTests := true, laidLooks := .later }
def GridScrollsUptoCardSaid : Prop := Claim7.holds Tryd.pinned (.plain (OpenSpec.upto gridScrollsSpec)) gridScrollsUptoCard

/-- THE SECOND FORM's CARD OF 'tiklaw7.GridShifts'. -/
def gridShiftsUptoCard : Claim7 := { stood := { row := gridShiftsUptoRow, standIns := [], harness := (true, "ca0710d70087c425407d5f24a5c1d77675f1fa9d97279af84f4c8bf68714d07d"), looks := false }, kinds := [], alts := [], laidByText := true, laidKinds := [.widerDeep, .widerDeep], laidTests := true, laidLooks := .later }
def GridShiftsUptoCardSaid : Prop := Claim7.holds Tryd.pinned (.plain (OpenSpec.upto gridShiftsSpec)) gridShiftsUptoCard

/-- THE SECOND FORM's CARD OF 'tiklaw7.GridPairs'. -/
def gridPairsUptoCard : Claim7 := { stood := { row := gridPairsUptoRow, standIns := [], harness := (true, "ca0710d70087c425407d5f24a5c1d77675f1fa9d97279af84f4c8bf68714d07d"), looks := false }, kinds := [], alts := [], laidByText := true, laidKinds := [.widerDeep, .widerDeep], laidTests := true, laidLooks := .later }
def GridPairsUptoCardSaid : Prop := Claim7.holds Tryd.pinned (.plain (OpenSpec.upto gridPairsSpec)) gridPairsUptoCard

/-- THE SECOND FORM's CARD OF 'tiklaw7.GridPlays'. -/
def gridPlaysUptoCard : Claim7 := { stood := { row := gridPlaysUptoRow, standIns := [], harness := (true, "ca0710d70087c425407d5f24a5c1d77675f1fa9d97279af84f4c8bf68714d07d"), looks := false }, kinds := [], alts := [], laidByText := true, laidKinds := [.widerDeep, .widerDeep], laidTests := true, laidLooks := .later }
def GridPlaysUptoCardSaid : Prop := Claim7.holds Tryd.pinned (.plain (OpenSpec.upto gridPlaysSpec)) gridPlaysUptoCard
end Rows
end Go.Proofs.YtcfndcjbgalnpaaDoor
