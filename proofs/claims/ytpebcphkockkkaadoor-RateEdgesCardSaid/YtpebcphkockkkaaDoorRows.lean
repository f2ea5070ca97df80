/-
  NARROWER THAN 'FOR EVERY INPUT', by the rows' own cells (each row's printed sentence says how): RateOf: laid · RateOrder: laid · RateStands: laid · RateScales: laid · RateBack: laid · RateEdges: laid · RateSeconds: laid · RateTicks: laid.
  DERIVED. THE GIVEN ROWS OF THIS SEAT. 8 by the template 'for every input the law returns true; each argument reads behind the call as it read before'; 0 by the template 'total and deterministic' (their statements: YtpebcphkockkkaaDoorTotals.lean).
  GIVEN WITH THE SEED: the statements are not yours to turn. If you find one false, say at which input.
  Laid BY PROGRAM, IN A SANDBOX (cutbox-rows.mjs): the forced cells as the released guide's own fill.sh prints them over the translation a563ca031a410a6e… (all of the seat's roots in one cut). By AI agents, Wed Nov 11 2026. No macro, syntax, notation, axiom, sorry.
-/
import Derived.Test.YtpebcphkockkkaaDoorChecked
import GoSem.Claim
import GoSem.ClaimJoined
import GoSem.ClaimMapViews
import Derived.JoinedTies
import Derived.KernelRfl
namespace Go.Proofs.YtpebcphkockkkaaDoor
/- THE CELL 'sum', in the pinned program and in every row, IS THE sha256 OF THE DUMP (.gsa) THAT YtpebcphkockkkaaDoorProg.lean LOADS. Nothing in Lean hashes anything: it is a label: what it is worth is what the hold of that sum in a sandbox is worth. -/
noncomputable def Tryd.pinned : Pinned := { name := "ytpebcphkockkkaadoor", sum := "a563ca031a410a6ea15196fdbf24a404b7cbb4b36795f03ac8a03a354210deff", checked := Tryd.checked }
namespace Rows
def none {H : Type} : Left H := { results := [], args := [] }

/- WHAT THE LISTED PACKAGE-LEVEL VARIABLES READ AS WHEN THE CALL BEGINS. Each datum BY PROGRAM (the guide's laid-datum.mjs) off the statement by which the dump's own 'gosem.cut.vars' lays the variable. In a bare row this is a premise. The card (YtpebcphkockkkaaDoorCards.lean) ties it to the program's text. -/
def laid_math_bits_deBruijn64tab {H : Type} : DataW H := .agg [.lit (.int .u8 0), .lit (.int .u8 1), .lit (.int .u8 56), .lit (.int .u8 2), .lit (.int .u8 57), .lit (.int .u8 49), .lit (.int .u8 28), .lit (.int .u8 3), .lit (.int .u8 61), .lit (.int .u8 58), .lit (.int .u8 42), .lit (.int .u8 50), .lit (.int .u8 38), .lit (.int .u8 29), .lit (.int .u8 17), .lit (.int .u8 4), .lit (.int .u8 62), .lit (.int .u8 47), .lit (.int .u8 59), .lit (.int .u8 36), .lit (.int .u8 45), .lit (.int .u8 43), .lit (.int .u8 51), .lit (.int .u8 22), .lit (.int .u8 53), .lit (.int .u8 39), .lit (.int .u8 33), .lit (.int .u8 30), .lit (.int .u8 24), .lit (.int .u8 18), .lit (.int .u8 12), .lit (.int .u8 5), .lit (.int .u8 63), .lit (.int .u8 55), .lit (.int .u8 48), .lit (.int .u8 27), .lit (.int .u8 60), .lit (.int .u8 41), .lit (.int .u8 37), .lit (.int .u8 16), .lit (.int .u8 46), .lit (.int .u8 35), .lit (.int .u8 44), .lit (.int .u8 21), .lit (.int .u8 52), .lit (.int .u8 32), .lit (.int .u8 23), .lit (.int .u8 11), .lit (.int .u8 54), .lit (.int .u8 26), .lit (.int .u8 40), .lit (.int .u8 15), .lit (.int .u8 34), .lit (.int .u8 20), .lit (.int .u8 31), .lit (.int .u8 10), .lit (.int .u8 25), .lit (.int .u8 14), .lit (.int .u8 19), .lit (.int .u8 9), .lit (.int .u8 13), .lit (.int .u8 8), .lit (.int .u8 7), .lit (.int .u8 6)]

/-- 'tiklaw1.RateOf': WHATEVER THE INPUT: true; the input reads as it did. -/
def rateOfSpec : ChangeSpec := { name := "rateOf", fn := fun _ => fun
  | [d1, d2, d3] => { results := [.lit (.bool true)], args := [d1, d2, d3] }
  | _ => none }
def rateOfRow : OpenClaim := { program := "ytpebcphkockkkaadoor", sum := "a563ca031a410a6ea15196fdbf24a404b7cbb4b36795f03ac8a03a354210deff", func := "tickertape/tiklaw1.RateOf", spec := "rateOf", inPlace := ["math.Float64bits", "math.RoundToEven", "math.Float64frombits", "math/bits.Add64"], named := ["math/bits.deBruijn64tab", "math/bits.divideError", "math/bits.overflowError"], apart := false, laid := [("math/bits.deBruijn64tab", laid_math_bits_deBruijn64tab)] }
def RateOfSaid : Prop := rateOfRow.holds Tryd.pinned (OpenSpec.ofChange rateOfSpec)

/-- ITS FALSE NEIGHBOUR: 'it returns false'. Refute it at one input. -/
def rateOfWrong : ChangeSpec := { name := "rateOf", fn := fun _ => fun
  | [d1, d2, d3] => { results := [.lit (.bool false)], args := [d1, d2, d3] }
  | _ => none }
def RateOfWrongFalsely : Prop := rateOfRow.holds Tryd.pinned (OpenSpec.ofChange rateOfWrong)

/-- 'tiklaw1.RateOrder': WHATEVER THE INPUT: true; the input reads as it did. -/
def rateOrderSpec : ChangeSpec := { name := "rateOrder", fn := fun _ => fun
  | [d1, d2, d3] => { results := [.lit (.bool true)], args := [d1, d2, d3] }
  | _ => none }
def rateOrderRow : OpenClaim := { program := "ytpebcphkockkkaadoor", sum := "a563ca031a410a6ea15196fdbf24a404b7cbb4b36795f03ac8a03a354210deff", func := "tickertape/tiklaw1.RateOrder", spec := "rateOrder", inPlace := ["math.Float64bits", "math.RoundToEven", "math.Float64frombits", "math/bits.Add64"], named := ["math/bits.deBruijn64tab", "math/bits.divideError", "math/bits.overflowError"], apart := false, laid := [("math/bits.deBruijn64tab", laid_math_bits_deBruijn64tab)] }
def RateOrderSaid : Prop := rateOrderRow.holds Tryd.pinned (OpenSpec.ofChange rateOrderSpec)

/-- ITS FALSE NEIGHBOUR: 'it returns false'. Refute it at one input. -/
def rateOrderWrong : ChangeSpec := { name := "rateOrder", fn := fun _ => fun
  | [d1, d2, d3] => { results := [.lit (.bool false)], args := [d1, d2, d3] }
  | _ => none }
def RateOrderWrongFalsely : Prop := rateOrderRow.holds Tryd.pinned (OpenSpec.ofChange rateOrderWrong)

/-- 'tiklaw1.RateStands': WHATEVER THE INPUT: true; the input reads as it did. -/
def rateStandsSpec : ChangeSpec := { name := "rateStands", fn := fun _ => fun
  | [d1, d2] => { results := [.lit (.bool true)], args := [d1, d2] }
  | _ => none }
def rateStandsRow : OpenClaim := { program := "ytpebcphkockkkaadoor", sum := "a563ca031a410a6ea15196fdbf24a404b7cbb4b36795f03ac8a03a354210deff", func := "tickertape/tiklaw1.RateStands", spec := "rateStands", inPlace := ["math.Float64bits", "math.RoundToEven", "math.Float64frombits", "math/bits.Add64"], named := ["math/bits.deBruijn64tab", "math/bits.divideError", "math/bits.overflowError"], apart := false, laid := [("math/bits.deBruijn64tab", laid_math_bits_deBruijn64tab)] }
def RateStandsSaid : Prop := rateStandsRow.holds Tryd.pinned (OpenSpec.ofChange rateStandsSpec)

/-- ITS FALSE NEIGHBOUR: 'it returns false'. Refute it at one input. -/
def rateStandsWrong : ChangeSpec := { name := "rateStands", fn := fun _ => fun
  | [d1, d2] => { results := [.lit (.bool false)], args := [d1, d2] }
  | _ => none }
def RateStandsWrongFalsely : Prop := rateStandsRow.holds Tryd.pinned (OpenSpec.ofChange rateStandsWrong)

/-- 'tiklaw1.RateScales': WHATEVER THE INPUT: true; the input reads as it did. -/
def rateScalesSpec : ChangeSpec := { name := "rateScales", fn := fun _ => fun
  | [d1, d2, d3] => { results := [.lit (.bool true)], args := [d1, d2, d3] }
  | _ => none }
def rateScalesRow : OpenClaim := { program := "ytpebcphkockkkaadoor", sum := "a563ca031a410a6ea15196fdbf24a404b7cbb4b36795f03ac8a03a354210deff", func := "tickertape/tiklaw1.RateScales", spec := "rateScales", inPlace := ["math.Float64bits", "math.RoundToEven", "math.Float64frombits", "math/bits.Add64"], named := ["math/bits.deBruijn64tab", "math/bits.divideError", "math/bits.overflowError"], apart := false, laid := [("math/bits.deBruijn64tab", laid_math_bits_deBruijn64tab)] }
def RateScalesSaid : Prop := rateScalesRow.holds Tryd.pinned (OpenSpec.ofChange rateScalesSpec)

/-- ITS FALSE NEIGHBOUR: 'it returns false'. Refute it at one input. -/
def rateScalesWrong : ChangeSpec := { name := "rateScales", fn := fun _ => fun
  | [d1, d2, d3] => { results := [.lit (.bool false)], args := [d1, d2, d3] }
  | _ => none }
def RateScalesWrongFalsely : Prop := rateScalesRow.holds Tryd.pinned (OpenSpec.ofChange rateScalesWrong)

/-- 'tiklaw1.RateBack': WHATEVER THE INPUT: true; the input reads as it did. -/
def rateBackSpec : ChangeSpec := { name := "rateBack", fn := fun _ => fun
  | [d1, d2, d3, d4] => { results := [.lit (.bool true)], args := [d1, d2, d3, d4] }
  | _ => none }
def rateBackRow : OpenClaim := { program := "ytpebcphkockkkaadoor", sum := "a563ca031a410a6ea15196fdbf24a404b7cbb4b36795f03ac8a03a354210deff", func := "tickertape/tiklaw1.RateBack", spec := "rateBack", inPlace := ["math.Float64bits", "math.RoundToEven", "math.Float64frombits", "math/bits.Add64"], named := ["math/bits.deBruijn64tab", "math/bits.divideError", "math/bits.overflowError"], apart := false, laid := [("math/bits.deBruijn64tab", laid_math_bits_deBruijn64tab)] }
def RateBackSaid : Prop := rateBackRow.holds Tryd.pinned (OpenSpec.ofChange rateBackSpec)

/-- ITS FALSE NEIGHBOUR: 'it returns false'. Refute it at one input. -/
def rateBackWrong : ChangeSpec := { name := "rateBack", fn := fun _ => fun
  | [d1, d2, d3, d4] => { results := [.lit (.bool false)], args := [d1, d2, d3, d4] }
  | _ => none }
def RateBackWrongFalsely : Prop := rateBackRow.holds Tryd.pinned (OpenSpec.ofChange rateBackWrong)

/-- 'tiklaw1.RateEdges': WHATEVER THE INPUT: true; the input reads as it did. -/
def rateEdgesSpec : ChangeSpec := { name := "rateEdges", fn := fun _ => fun
  | [d] => { results := [.lit (.bool true)], args := [d] }
  | _ => none }
def rateEdgesRow : OpenClaim := { program := "ytpebcphkockkkaadoor", sum := "a563ca031a410a6ea15196fdbf24a404b7cbb4b36795f03ac8a03a354210deff", func := "tickertape/tiklaw1.RateEdges", spec := "rateEdges", inPlace := ["math.Float64bits", "math.RoundToEven", "math.Float64frombits", "math/bits.Add64"], named := ["math/bits.deBruijn64tab", "math/bits.divideError", "math/bits.overflowError"], apart := false, laid := [("math/bits.deBruijn64tab", laid_math_bits_deBruijn64tab)] }
def RateEdgesSaid : Prop := rateEdgesRow.holds Tryd.pinned (OpenSpec.ofChange rateEdgesSpec)

/-- ITS FALSE NEIGHBOUR: 'it returns false'. Refute it at one input. -/
def rateEdgesWrong : ChangeSpec := { name := "rateEdges", fn := fun _ => fun
  | [d] => { results := [.lit (.bool false)], args := [d] }
  | _ => none }
def RateEdgesWrongFalsely : Prop := rateEdgesRow.holds Tryd.pinned (OpenSpec.ofChange rateEdgesWrong)

/-- 'tiklaw1.RateSeconds': WHATEVER THE INPUT: true; the input reads as it did. -/
def rateSecondsSpec : ChangeSpec := { name := "rateSeconds", fn := fun _ => fun
  | [d1, d2] => { results := [.lit (.bool true)], args := [d1, d2] }
  | _ => none }
def rateSecondsRow : OpenClaim := { program := "ytpebcphkockkkaadoor", sum := "a563ca031a410a6ea15196fdbf24a404b7cbb4b36795f03ac8a03a354210deff", func := "tickertape/tiklaw1.RateSeconds", spec := "rateSeconds", inPlace := ["math.Float64bits", "math.RoundToEven", "math.Float64frombits", "math/bits.Add64"], named := ["math/bits.deBruijn64tab", "math/bits.divideError", "math/bits.overflowError"], apart := false, laid := [("math/bits.deBruijn64tab", laid_math_bits_deBruijn64tab)] }
def RateSecondsSaid : Prop := rateSecondsRow.holds Tryd.pinned (OpenSpec.ofChange rateSecondsSpec)

/-- ITS FALSE NEIGHBOUR: 'it returns false'. Refute it at one input. -/
def rateSecondsWrong : ChangeSpec := { name := "rateSeconds", fn := fun _ => fun
  | [d1, d2] => { results := [.lit (.bool false)], args := [d1, d2] }
  | _ => none }
def RateSecondsWrongFalsely : Prop := rateSecondsRow.holds Tryd.pinned (OpenSpec.ofChange rateSecondsWrong)

/-- 'tiklaw1.RateTicks': WHATEVER THE INPUT: true; the input reads as it did. -/
def rateTicksSpec : ChangeSpec := { name := "rateTicks", fn := fun _ => fun
  | [d1, d2, d3] => { results := [.lit (.bool true)], args := [d1, d2, d3] }
  | _ => none }
def rateTicksRow : OpenClaim := { program := "ytpebcphkockkkaadoor", sum := "a563ca031a410a6ea15196fdbf24a404b7cbb4b36795f03ac8a03a354210deff", func := "tickertape/tiklaw1.RateTicks", spec := "rateTicks", inPlace := ["math.Float64bits", "math.RoundToEven", "math.Float64frombits", "math/bits.Add64"], named := ["math/bits.deBruijn64tab", "math/bits.divideError", "math/bits.overflowError"], apart := false, laid := [("math/bits.deBruijn64tab", laid_math_bits_deBruijn64tab)] }
def RateTicksSaid : Prop := rateTicksRow.holds Tryd.pinned (OpenSpec.ofChange rateTicksSpec)

/-- ITS FALSE NEIGHBOUR: 'it returns false'. Refute it at one input. -/
def rateTicksWrong : ChangeSpec := { name := "rateTicks", fn := fun _ => fun
  | [d1, d2, d3] => { results := [.lit (.bool false)], args := [d1, d2, d3] }
  | _ => none }
def RateTicksWrongFalsely : Prop := rateTicksRow.holds Tryd.pinned (OpenSpec.ofChange rateTicksWrong)

/- THE SECOND FORM. 'bulk': how many values and letters a reading holds, each counted each time it is reached (what is shared counts as often as it is met; a slice's spare places count too). A statement '..UptoSaid' is the law's where the arguments, and the package variables that the reading takes, are together of bulk at most 1048576: NARROWER than '..Said'. Prove '..Said' where nothing that the law and all that it calls make is longer than what came in: it says more and counts as full. Else prove '..UptoSaid'. A law counts once. -/
mutual
def uptoBulk {H : Type} : DataW H → Nat
  | .lit (.string bytes) => bytes.length + 1
  | .lit _ => 1
  | .nil => 1
  | .ptr d => uptoBulk d + 1
  | .slice elems spare => uptoBulkAll elems + uptoBulkAll spare + 1
  | .agg parts => uptoBulkAll parts + 1
  | .iface _ d => uptoBulk d + 1
  | .map entries => uptoBulkEntries entries + 1
  | .held _ => 1
def uptoBulkAll {H : Type} : List (DataW H) → Nat
  | [] => 0
  | d :: r => uptoBulk d + uptoBulkAll r
def uptoBulkEntries {H : Type} : List (Lit × DataW H) → Nat
  | [] => 0
  | x :: r => uptoBulkEntry x + uptoBulkEntries r
def uptoBulkEntry {H : Type} : Lit × DataW H → Nat
  | (.string bytes, d) => bytes.length + uptoBulk d + 1
  | (_, d) => uptoBulk d + 1
 end
def uptoSmall : (H : Type) → List (DataW H) → Bool := fun _ ds => decide (uptoBulkAll ds ≤ 1048576)
def OpenSpec.upto (s : _root_.Go.ChangeSpec) : _root_.Go.OpenSpec := { _root_.Go.OpenSpec.ofChange s with cond := some uptoSmall }

/-- 'tiklaw1.RateOf', WHERE WHAT IT READS IS OF BULK AT MOST 1048576: true; the input reads as it did. -/
def rateOfUptoRow : OpenClaim := { program := "ytpebcphkockkkaadoor", sum := "a563ca031a410a6ea15196fdbf24a404b7cbb4b36795f03ac8a03a354210deff", func := "tickertape/tiklaw1.RateOf", spec := "rateOf", inPlace := ["math.Float64bits", "math.RoundToEven", "math.Float64frombits", "math/bits.Add64"], named := ["math/bits.deBruijn64tab", "math/bits.divideError", "math/bits.overflowError"], apart := false, laid := [("math/bits.deBruijn64tab", laid_math_bits_deBruijn64tab)], narrowed := true }
def RateOfUptoSaid : Prop := rateOfUptoRow.holds Tryd.pinned (OpenSpec.upto rateOfSpec)

/-- 'tiklaw1.RateOrder', WHERE WHAT IT READS IS OF BULK AT MOST 1048576: true; the input reads as it did. -/
def rateOrderUptoRow : OpenClaim := { program := "ytpebcphkockkkaadoor", sum := "a563ca031a410a6ea15196fdbf24a404b7cbb4b36795f03ac8a03a354210deff", func := "tickertape/tiklaw1.RateOrder", spec := "rateOrder", inPlace := ["math.Float64bits", "math.RoundToEven", "math.Float64frombits", "math/bits.Add64"], named := ["math/bits.deBruijn64tab", "math/bits.divideError", "math/bits.overflowError"], apart := false, laid := [("math/bits.deBruijn64tab", laid_math_bits_deBruijn64tab)], narrowed := true }
def RateOrderUptoSaid : Prop := rateOrderUptoRow.holds Tryd.pinned (OpenSpec.upto rateOrderSpec)

/-- 'tiklaw1.RateStands', WHERE WHAT IT READS IS OF BULK AT MOST 1048576: true; the input reads as it did. -/
def rateStandsUptoRow : OpenClaim := { program := "ytpebcphkockkkaadoor", sum := "a563ca031a410a6ea15196fdbf24a404b7cbb4b36795f03ac8a03a354210deff", func := "tickertape/tiklaw1.RateStands", spec := "rateStands", inPlace := ["math.Float64bits", "math.RoundToEven", "math.Float64frombits", "math/bits.Add64"], named := ["math/bits.deBruijn64tab", "math/bits.divideError", "math/bits.overflowError"], apart := false, laid := [("math/bits.deBruijn64tab", laid_math_bits_deBruijn64tab)], narrowed := true }
def RateStandsUptoSaid : Prop := rateStandsUptoRow.holds Tryd.pinned (OpenSpec.upto rateStandsSpec)

/-- 'tiklaw1.RateScales', WHERE WHAT IT READS IS OF BULK AT MOST 1048576: true; the input reads as it did. -/
def rateScalesUptoRow : OpenClaim := { program := "ytpebcphkockkkaadoor", sum := "a563ca031a410a6ea15196fdbf24a404b7cbb4b36795f03ac8a03a354210deff", func := "tickertape/tiklaw1.RateScales", spec := "rateScales", inPlace := ["math.Float64bits", "math.RoundToEven", "math.Float64frombits", "math/bits.Add64"], named := ["math/bits.deBruijn64tab", "math/bits.divideError", "math/bits.overflowError"], apart := false, laid := [("math/bits.deBruijn64tab", laid_math_bits_deBruijn64tab)], narrowed := true }
def RateScalesUptoSaid : Prop := rateScalesUptoRow.holds Tryd.pinned (OpenSpec.upto rateScalesSpec)

/-- 'tiklaw1.RateBack', WHERE WHAT IT READS IS OF BULK AT MOST 1048576: true; the input reads as it did. -/
def rateBackUptoRow : OpenClaim := { program := "ytpebcphkockkkaadoor", sum := "a563ca031a410a6ea15196fdbf24a404b7cbb4b36795f03ac8a03a354210deff", func := "tickertape/tiklaw1.RateBack", spec := "rateBack", inPlace := ["math.Float64bits", "math.RoundToEven", "math.Float64frombits", "math/bits.Add64"], named := ["math/bits.deBruijn64tab", "math/bits.divideError", "math/bits.overflowError"], apart := false, laid := [("math/bits.deBruijn64tab", laid_math_bits_deBruijn64tab)], narrowed := true }
def RateBackUptoSaid : Prop := rateBackUptoRow.holds Tryd.pinned (OpenSpec.upto rateBackSpec)

/-- 'tiklaw1.RateEdges', WHERE WHAT IT READS IS OF BULK AT MOST 1048576: true; the input reads as it did. -/
def rateEdgesUptoRow : OpenClaim := { program := "ytpebcphkockkkaadoor", sum := "a563ca031a410a6ea15196fdbf24a404b7cbb4b36795f03ac8a03a354210deff", func := "tickertape/tiklaw1.RateEdges", spec := "rateEdges", inPlace := ["math.Float64bits", "math.RoundToEven", "math.Float64frombits", "math/bits.Add64"], named := ["math/bits.deBruijn64tab", "math/bits.divideError", "math/bits.overflowError"], apart := false, laid := [("math/bits.deBruijn64tab", laid_math_bits_deBruijn64tab)], narrowed := true }
def RateEdgesUptoSaid : Prop := rateEdgesUptoRow.holds Tryd.pinned (OpenSpec.upto rateEdgesSpec)

/-- 'tiklaw1.RateSeconds', WHERE WHAT IT READS IS OF BULK AT MOST 1048576: true; the input reads as it did. -/
def rateSecondsUptoRow : OpenClaim := { program := "ytpebcphkockkkaadoor", sum := "a563ca031a410a6ea15196fdbf24a404b7cbb4b36795f03ac8a03a354210deff", func := "tickertape/tiklaw1.RateSeconds", spec := "rateSeconds", inPlace := ["math.Float64bits", "math.RoundToEven", "math.Float64frombits", "math/bits.Add64"], named := ["math/bits.deBruijn64tab", "math/bits.divideError", "math/bits.overflowError"], apart := false, laid := [("math/bits.deBruijn64tab", laid_math_bits_deBruijn64tab)], narrowed := true }
def RateSecondsUptoSaid : Prop := rateSecondsUptoRow.holds Tryd.pinned (OpenSpec.upto rateSecondsSpec)

/-- 'tiklaw1.RateTicks', WHERE WHAT IT READS IS OF BULK AT MOST 1048576: true; the input reads as it did. -/
def rateTicksUptoRow : OpenClaim := { program := "ytpebcphkockkkaadoor", sum := "a563ca031a410a6ea15196fdbf24a404b7cbb4b36795f03ac8a03a354210deff", func := "tickertape/tiklaw1.RateTicks", spec := "rateTicks", inPlace := ["math.Float64bits", "math.RoundToEven", "math.Float64frombits", "math/bits.Add64"], named := ["math/bits.deBruijn64tab", "math/bits.divideError", "math/bits.overflowError"], apart := false, laid := [("math/bits.deBruijn64tab", laid_math_bits_deBruijn64tab)], narrowed := true }
def RateTicksUptoSaid : Prop := rateTicksUptoRow.holds Tryd.pinned (OpenSpec.upto rateTicksSpec)

end Rows
end Go.Proofs.YtpebcphkockkkaaDoor
