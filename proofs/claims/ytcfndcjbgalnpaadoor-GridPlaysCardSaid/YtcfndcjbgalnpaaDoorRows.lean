/-
  NARROWER THAN 'FOR EVERY INPUT', by the rows' own cells (each row's printed sentence says how): GridWide: laid · GridSizes: laid · GridScrolls: laid · GridShifts: laid · GridPairs: laid · GridPlays: laid.
  DERIVED. THE GIVEN ROWS OF THIS SEAT. 6 by the template 'for every input the law returns true; each argument reads behind the call as it read before'; 0 by the template 'total and deterministic' (their statements: YtcfndcjbgalnpaaDoorTotals.lean).
  GIVEN WITH THE SEED: the statements are not yours to turn. If you find one false, say at which input.
  Laid BY PROGRAM, IN A SANDBOX (cutbox-rows.mjs): the forced cells as the released guide's own fill.sh prints them over the translation d13ed2a85db85465… (all of the seat's roots in one cut). By AI agents, Wed Nov 11 2026. No macro, syntax, notation, axiom, sorry.
-/
import Derived.Test.YtcfndcjbgalnpaaDoorChecked
import GoSem.Claim
import GoSem.ClaimJoined
import GoSem.ClaimMapViews
import Derived.JoinedTies
import Derived.KernelRfl
namespace Go.Proofs.YtcfndcjbgalnpaaDoor
/- THE CELL 'sum', in the pinned program and in every row, IS THE sha256 OF THE DUMP (.gsa) THAT YtcfndcjbgalnpaaDoorProg.lean LOADS. Nothing in Lean hashes anything: it is a label: what it is worth is what the hold of that sum in a sandbox is worth. -/
noncomputable def Tryd.pinned : Pinned := { name := "ytcfndcjbgalnpaadoor", sum := "d13ed2a85db85465b1e364f8b110c0b2e16a9c4e0dd781c8b01bad3a3e7c205b", checked := Tryd.checked }
namespace Rows
def none {H : Type} : Left H := { results := [], args := [] }

/- WHAT THE LISTED PACKAGE-LEVEL VARIABLES READ AS WHEN THE CALL BEGINS. Each datum BY PROGRAM (the guide's laid-datum.mjs) off the statement by which the dump's own 'gosem.cut.vars' lays the variable. In a bare row this is a premise. The card (YtcfndcjbgalnpaaDoorCards.lean) ties it to the program's text. -/
def laid_tickertape_cell_wide {H : Type} : DataW H := .agg [.agg [.lit (.int .i32 4352), .lit (.int .i32 4447)], .agg [.lit (.int .i32 11904), .lit (.int .i32 42191)], .agg [.lit (.int .i32 44032), .lit (.int .i32 55203)], .agg [.lit (.int .i32 63744), .lit (.int .i32 64255)], .agg [.lit (.int .i32 65072), .lit (.int .i32 65135)], .agg [.lit (.int .i32 65280), .lit (.int .i32 65376)], .agg [.lit (.int .i32 65504), .lit (.int .i32 65510)], .agg [.lit (.int .i32 127744), .lit (.int .i32 128591)], .agg [.lit (.int .i32 129280), .lit (.int .i32 129535)], .agg [.lit (.int .i32 131072), .lit (.int .i32 262141)]]
def laid_tickertape_cell_none {H : Type} : DataW H := .agg [.agg [.lit (.int .i32 0), .lit (.int .i32 31)], .agg [.lit (.int .i32 127), .lit (.int .i32 159)], .agg [.lit (.int .i32 768), .lit (.int .i32 879)], .agg [.lit (.int .i32 55296), .lit (.int .i32 57343)]]

/-- 'tiklaw7.GridWide': WHATEVER THE INPUT: true; the input reads as it did. -/
def gridWideSpec : ChangeSpec := { name := "gridWide", fn := fun _ => fun
  | [d1, d2, d3, d4, d5] => { results := [.lit (.bool true)], args := [d1, d2, d3, d4, d5] }
  | _ => none }
def gridWideRow : OpenClaim := { program := "ytcfndcjbgalnpaadoor", sum := "d13ed2a85db85465b1e364f8b110c0b2e16a9c4e0dd781c8b01bad3a3e7c205b", func := "tickertape/tiklaw7.GridWide", spec := "gridWide", named := ["tickertape/cell.none", "tickertape/cell.wide"], apart := false, laid := [("tickertape/cell.wide", laid_tickertape_cell_wide), ("tickertape/cell.none", laid_tickertape_cell_none)] }
def GridWideSaid : Prop := gridWideRow.holds Tryd.pinned (OpenSpec.ofChange gridWideSpec)

/-- ITS FALSE NEIGHBOUR: 'it returns false'. Refute it at one input. -/
def gridWideWrong : ChangeSpec := { name := "gridWide", fn := fun _ => fun
  | [d1, d2, d3, d4, d5] => { results := [.lit (.bool false)], args := [d1, d2, d3, d4, d5] }
  | _ => none }
def GridWideWrongFalsely : Prop := gridWideRow.holds Tryd.pinned (OpenSpec.ofChange gridWideWrong)

/-- 'tiklaw7.GridSizes': WHATEVER THE INPUT: true; the input reads as it did. -/
def gridSizesSpec : ChangeSpec := { name := "gridSizes", fn := fun _ => fun
  | [d1, d2, d3, d4, d5] => { results := [.lit (.bool true)], args := [d1, d2, d3, d4, d5] }
  | _ => none }
def gridSizesRow : OpenClaim := { program := "ytcfndcjbgalnpaadoor", sum := "d13ed2a85db85465b1e364f8b110c0b2e16a9c4e0dd781c8b01bad3a3e7c205b", func := "tickertape/tiklaw7.GridSizes", spec := "gridSizes", named := ["tickertape/cell.none", "tickertape/cell.wide"], apart := false, laid := [("tickertape/cell.wide", laid_tickertape_cell_wide), ("tickertape/cell.none", laid_tickertape_cell_none)] }
def GridSizesSaid : Prop := gridSizesRow.holds Tryd.pinned (OpenSpec.ofChange gridSizesSpec)

/-- ITS FALSE NEIGHBOUR: 'it returns false'. Refute it at one input. -/
def gridSizesWrong : ChangeSpec := { name := "gridSizes", fn := fun _ => fun
  | [d1, d2, d3, d4, d5] => { results := [.lit (.bool false)], args := [d1, d2, d3, d4, d5] }
  | _ => none }
def GridSizesWrongFalsely : Prop := gridSizesRow.holds Tryd.pinned (OpenSpec.ofChange gridSizesWrong)

/-- 'tiklaw7.GridScrolls': WHATEVER THE INPUT: true; the input reads as it did. -/
def gridScrollsSpec : ChangeSpec := { name := "gridScrolls", fn := fun _ => fun
  | [d1, d2, d3, d4, d5] => { results := [.lit (.bool true)], args := [d1, d2, d3, d4, d5] }
  | _ => none }
def gridScrollsRow : OpenClaim := { program := "ytcfndcjbgalnpaadoor", sum := "d13ed2a85db85465b1e364f8b110c0b2e16a9c4e0dd781c8b01bad3a3e7c205b", func := "tickertape/tiklaw7.GridScrolls", spec := "gridScrolls", named := ["tickertape/cell.none", "tickertape/cell.wide"], apart := false, laid := [("tickertape/cell.wide", laid_tickertape_cell_wide), ("tickertape/cell.none", laid_tickertape_cell_none)] }
def GridScrollsSaid : Prop := gridScrollsRow.holds Tryd.pinned (OpenSpec.ofChange gridScrollsSpec)

/-- ITS FALSE NEIGHBOUR: 'it returns false'. Refute it at one input. -/
def gridScrollsWrong : ChangeSpec := { name := "gridScrolls", fn := fun _ => fun
  | [d1, d2, d3, d4, d5] => { results := [.lit (.bool false)], args := [d1, d2, d3, d4, d5] }
  | _ => none }
def GridScrollsWrongFalsely : Prop := gridScrollsRow.holds Tryd.pinned (OpenSpec.ofChange gridScrollsWrong)

/-- 'tiklaw7.GridShifts': WHATEVER THE INPUT: true; the input reads as it did. -/
def gridShiftsSpec : ChangeSpec := { name := "gridShifts", fn := fun _ => fun
  | [d1, d2, d3, d4] => { results := [.lit (.bool true)], args := [d1, d2, d3, d4] }
  | _ => none }
def gridShiftsRow : OpenClaim := { program := "ytcfndcjbgalnpaadoor", sum := "d13ed2a85db85465b1e364f8b110c0b2e16a9c4e0dd781c8b01bad3a3e7c205b", func := "tickertape/tiklaw7.GridShifts", spec := "gridShifts", named := ["tickertape/cell.none", "tickertape/cell.wide"], apart := false, laid := [("tickertape/cell.wide", laid_tickertape_cell_wide), ("tickertape/cell.none", laid_tickertape_cell_none)] }
def GridShiftsSaid : Prop := gridShiftsRow.holds Tryd.pinned (OpenSpec.ofChange gridShiftsSpec)

/-- ITS FALSE NEIGHBOUR: 'it returns false'. Refute it at one input. -/
def gridShiftsWrong : ChangeSpec := { name := "gridShifts", fn := fun _ => fun
  | [d1, d2, d3, d4] => { results := [.lit (.bool false)], args := [d1, d2, d3, d4] }
  | _ => none }
def GridShiftsWrongFalsely : Prop := gridShiftsRow.holds Tryd.pinned (OpenSpec.ofChange gridShiftsWrong)

/-- 'tiklaw7.GridPairs': WHATEVER THE INPUT: true; the input reads as it did. -/
def gridPairsSpec : ChangeSpec := { name := "gridPairs", fn := fun _ => fun
  | [d1, d2, d3] => { results := [.lit (.bool true)], args := [d1, d2, d3] }
  | _ => none }
def gridPairsRow : OpenClaim := { program := "ytcfndcjbgalnpaadoor", sum := "d13ed2a85db85465b1e364f8b110c0b2e16a9c4e0dd781c8b01bad3a3e7c205b", func := "tickertape/tiklaw7.GridPairs", spec := "gridPairs", named := ["tickertape/cell.none", "tickertape/cell.wide"], apart := false, laid := [("tickertape/cell.wide", laid_tickertape_cell_wide), ("tickertape/cell.none", laid_tickertape_cell_none)] }
def GridPairsSaid : Prop := gridPairsRow.holds Tryd.pinned (OpenSpec.ofChange gridPairsSpec)

/-- ITS FALSE NEIGHBOUR: 'it returns false'. Refute it at one input. -/
def gridPairsWrong : ChangeSpec := { name := "gridPairs", fn := fun _ => fun
  | [d1, d2, d3] => { results := [.lit (.bool false)], args := [d1, d2, d3] }
  | _ => none }
def GridPairsWrongFalsely : Prop := gridPairsRow.holds Tryd.pinned (OpenSpec.ofChange gridPairsWrong)

/-- 'tiklaw7.GridPlays': WHATEVER THE INPUT: true; the input reads as it did. -/
def gridPlaysSpec : ChangeSpec := { name := "gridPlays", fn := fun _ => fun
  | [d1, d2, d3] => { results := [.lit (.bool true)], args := [d1, d2, d3] }
  | _ => none }
def gridPlaysRow : OpenClaim := { program := "ytcfndcjbgalnpaadoor", sum := "d13ed2a85db85465b1e364f8b110c0b2e16a9c4e0dd781c8b01bad3a3e7c205b", func := "tickertape/tiklaw7.GridPlays", spec := "gridPlays", named := ["tickertape/cell.none", "tickertape/cell.wide"], apart := false, laid := [("tickertape/cell.wide", laid_tickertape_cell_wide), ("tickertape/cell.none", laid_tickertape_cell_none)] }
def GridPlaysSaid : Prop := gridPlaysRow.holds Tryd.pinned (OpenSpec.ofChange gridPlaysSpec)

/-- ITS FALSE NEIGHBOUR: 'it returns false'. Refute it at one input. -/
def gridPlaysWrong : ChangeSpec := { name := "gridPlays", fn := fun _ => fun
  | [d1, d2, d3] => { results := [.lit (.bool false)], args := [d1, d2, d3] }
  | _ => none }
def GridPlaysWrongFalsely : Prop := gridPlaysRow.holds Tryd.pinned (OpenSpec.ofChange gridPlaysWrong)

/- THE SECOND FORM. 'bulk': how many values and letters a reading holds, each counted each time it is reached (what is shared counts as often as it is met; a slice's spare places count too). A statement '..UptoSaid' is the law's where the arguments, and the package variables that the reading takes, are together of bulk at most 1048576: NARROWER than '..Said'. Prove '..Said' where nothing that the law and all that it calls make is longer than what came in: it says more and counts as full. Else prove '..UptoSaid'. A law counts once. -/
mutual
def uptoBulk {H : Type} : DataW H → Nat
  | .lit (.string bytes) => bytes.length + 1
  | .lit _ => 1
  | .nil => 1
  | .ptr d => uptoBulk d + 1
  | .slice elems spare => uptoBulkAll elems + uptoBulkAll spare + 1
  | .agg parts => uptoBulkAll parts + 1
  | .iface _ d => uptoBulk d + 1
  | .map entries => uptoBulkEntries entries + 1
  | .held _ => 1
def uptoBulkAll {H : Type} : List (DataW H) → Nat
  | [] => 0
  | d :: r => uptoBulk d + uptoBulkAll r
def uptoBulkEntries {H : Type} : List (Lit × DataW H) → Nat
  | [] => 0
  | x :: r => uptoBulkEntry x + uptoBulkEntries r
def uptoBulkEntry {H : Type} : Lit × DataW H → Nat
  | (.string bytes, d) => bytes.length + uptoBulk d + 1
  | (_, d) => uptoBulk d + 1
 end
def uptoSmall : (H : Type) → List (DataW H) → Bool := fun _ ds => decide (uptoBulkAll ds ≤ 1048576)
def OpenSpec.upto (s : _root_.Go.ChangeSpec) : _root_.Go.OpenSpec := { _root_.Go.OpenSpec.ofChange s with cond := some uptoSmall }

/-- 'tiklaw7.GridWide', WHERE WHAT IT READS IS OF BULK AT MOST 1048576: true; the input reads as it did. -/
def gridWideUptoRow : OpenClaim := { program := "ytcfndcjbgalnpaadoor", sum := "d13ed2a85db85465b1e364f8b110c0b2e16a9c4e0dd781c8b01bad3a3e7c205b", func := "tickertape/tiklaw7.GridWide", spec := "gridWide", named := ["tickertape/cell.none", "tickertape/cell.wide"], apart := false, laid := [("tickertape/cell.wide", laid_tickertape_cell_wide), ("tickertape/cell.none", laid_tickertape_cell_none)], narrowed := true }
def GridWideUptoSaid : Prop := gridWideUptoRow.holds Tryd.pinned (OpenSpec.upto gridWideSpec)

/-- 'tiklaw7.GridSizes', WHERE WHAT IT READS IS OF BULK AT MOST 1048576: true; the input reads as it did. -/
def gridSizesUptoRow : OpenClaim := { program := "ytcfndcjbgalnpaadoor", sum := "d13ed2a85db85465b1e364f8b110c0b2e16a9c4e0dd781c8b01bad3a3e7c205b", func := "tickertape/tiklaw7.GridSizes", spec := "gridSizes", named := ["tickertape/cell.none", "tickertape/cell.wide"], apart := false, laid := [("tickertape/cell.wide", laid_tickertape_cell_wide), ("tickertape/cell.none", laid_tickertape_cell_none)], narrowed := true }
def GridSizesUptoSaid : Prop := gridSizesUptoRow.holds Tryd.pinned (OpenSpec.upto gridSizesSpec)

/-- 'tiklaw7.GridScrolls', WHERE WHAT IT READS IS OF BULK AT MOST 1048576: true; the input reads as it did. -/
def gridScrollsUptoRow : OpenClaim := { program := "ytcfndcjbgalnpaadoor", sum := "d13ed2a85db85465b1e364f8b110c0b2e16a9c4e0dd781c8b01bad3a3e7c205b", func := "tickertape/tiklaw7.GridScrolls", spec := "gridScrolls", named := ["tickertape/cell.none", "tickertape/cell.wide"], apart := false, laid := [("tickertape/cell.wide", laid_tickertape_cell_wide), ("tickertape/cell.none", laid_tickertape_cell_none)], narrowed := true }
def GridScrollsUptoSaid : Prop := gridScrollsUptoRow.holds Tryd.pinned (OpenSpec.upto gridScrollsSpec)

/-- 'tiklaw7.GridShifts', WHERE WHAT IT READS IS OF BULK AT MOST 1048576: true; the input reads as it did. -/
def gridShiftsUptoRow : OpenClaim := { program := "ytcfndcjbgalnpaadoor", sum := "d13ed2a85db85465b1e364f8b110c0b2e16a9c4e0dd781c8b01bad3a3e7c205b", func := "tickertape/tiklaw7.GridShifts", spec := "gridShifts", named := ["tickertape/cell.none", "tickertape/cell.wide"], apart := false, laid := [("tickertape/cell.wide", laid_tickertape_cell_wide), ("tickertape/cell.none", laid_tickertape_cell_none)], narrowed := true }
def GridShiftsUptoSaid : Prop := gridShiftsUptoRow.holds Tryd.pinned (OpenSpec.upto gridShiftsSpec)

/-- 'tiklaw7.GridPairs', WHERE WHAT IT READS IS OF BULK AT MOST 1048576: true; the input reads as it did. -/
def gridPairsUptoRow : OpenClaim := { program := "ytcfndcjbgalnpaadoor", sum := "d13ed2a85db85465b1e364f8b110c0b2e16a9c4e0dd781c8b01bad3a3e7c205b", func := "tickertape/tiklaw7.GridPairs", spec := "gridPairs", named := ["tickertape/cell.none", "tickertape/cell.wide"], apart := false, laid := [("tickertape/cell.wide", laid_tickertape_cell_wide), ("tickertape/cell.none", laid_tickertape_cell_none)], narrowed := true }
def GridPairsUptoSaid : Prop := gridPairsUptoRow.holds Tryd.pinned (OpenSpec.upto gridPairsSpec)

/-- 'tiklaw7.GridPlays', WHERE WHAT IT READS IS OF BULK AT MOST 1048576: true; the input reads as it did. -/
def gridPlaysUptoRow : OpenClaim := { program := "ytcfndcjbgalnpaadoor", sum := "d13ed2a85db85465b1e364f8b110c0b2e16a9c4e0dd781c8b01bad3a3e7c205b", func := "tickertape/tiklaw7.GridPlays", spec := "gridPlays", named := ["tickertape/cell.none", "tickertape/cell.wide"], apart := false, laid := [("tickertape/cell.wide", laid_tickertape_cell_wide), ("tickertape/cell.none", laid_tickertape_cell_none)], narrowed := true }
def GridPlaysUptoSaid : Prop := gridPlaysUptoRow.holds Tryd.pinned (OpenSpec.upto gridPlaysSpec)

end Rows
end Go.Proofs.YtcfndcjbgalnpaaDoor
