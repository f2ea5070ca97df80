/-
  NARROWER THAN 'FOR EVERY INPUT', by the rows' own cells (each row's printed sentence says how): DeckPlays: laid · DeckForward: laid · DeckStands: laid · DeckRates: laid · DeckAir: laid · SegTells: laid · SegNames: laid · SegBack: laid · SegStops: laid.
  DERIVED. THE GIVEN ROWS OF THIS SEAT. 9 by the template 'for every input the law returns true; each argument reads behind the call as it read before'; 0 by the template 'total and deterministic' (their statements: YtlgfmmkabnbllaaDoorTotals.lean).
  GIVEN WITH THE SEED: the statements are not yours to turn. If you find one false, say at which input.
  Laid BY PROGRAM, IN A SANDBOX (cutbox-rows.mjs): the forced cells as the released guide's own fill.sh prints them over the translation 63b4d202d8365343… (all of the seat's roots in one cut). By AI agents, Wed Nov 11 2026. No macro, syntax, notation, axiom, sorry.
-/
import Derived.Test.YtlgfmmkabnbllaaDoorChecked
import GoSem.Claim
import GoSem.ClaimJoined
import GoSem.ClaimMapViews
import Derived.JoinedTies
import Derived.KernelRfl
namespace Go.Proofs.YtlgfmmkabnbllaaDoor
/- THE CELL 'sum', in the pinned program and in every row, IS THE sha256 OF THE DUMP (.gsa) THAT YtlgfmmkabnbllaaDoorProg.lean LOADS. Nothing in Lean hashes anything: it is a label: what it is worth is what the hold of that sum in a sandbox is worth. -/
noncomputable def Tryd.pinned : Pinned := { name := "ytlgfmmkabnbllaadoor", sum := "63b4d202d83653433274f550a3bfb476b78e14814add5140c6c576ca383de6c2", checked := Tryd.checked }
namespace Rows
def none {H : Type} : Left H := { results := [], args := [] }

/- WHAT THE LISTED PACKAGE-LEVEL VARIABLES READ AS WHEN THE CALL BEGINS. Each datum BY PROGRAM (the guide's laid-datum.mjs) off the statement by which the dump's own 'gosem.cut.vars' lays the variable. In a bare row this is a premise. The card (YtlgfmmkabnbllaaDoorCards.lean) ties it to the program's text. -/
def laid_math_bits_deBruijn64tab {H : Type} : DataW H := .agg [.lit (.int .u8 0), .lit (.int .u8 1), .lit (.int .u8 56), .lit (.int .u8 2), .lit (.int .u8 57), .lit (.int .u8 49), .lit (.int .u8 28), .lit (.int .u8 3), .lit (.int .u8 61), .lit (.int .u8 58), .lit (.int .u8 42), .lit (.int .u8 50), .lit (.int .u8 38), .lit (.int .u8 29), .lit (.int .u8 17), .lit (.int .u8 4), .lit (.int .u8 62), .lit (.int .u8 47), .lit (.int .u8 59), .lit (.int .u8 36), .lit (.int .u8 45), .lit (.int .u8 43), .lit (.int .u8 51), .lit (.int .u8 22), .lit (.int .u8 53), .lit (.int .u8 39), .lit (.int .u8 33), .lit (.int .u8 30), .lit (.int .u8 24), .lit (.int .u8 18), .lit (.int .u8 12), .lit (.int .u8 5), .lit (.int .u8 63), .lit (.int .u8 55), .lit (.int .u8 48), .lit (.int .u8 27), .lit (.int .u8 60), .lit (.int .u8 41), .lit (.int .u8 37), .lit (.int .u8 16), .lit (.int .u8 46), .lit (.int .u8 35), .lit (.int .u8 44), .lit (.int .u8 21), .lit (.int .u8 52), .lit (.int .u8 32), .lit (.int .u8 23), .lit (.int .u8 11), .lit (.int .u8 54), .lit (.int .u8 26), .lit (.int .u8 40), .lit (.int .u8 15), .lit (.int .u8 34), .lit (.int .u8 20), .lit (.int .u8 31), .lit (.int .u8 10), .lit (.int .u8 25), .lit (.int .u8 14), .lit (.int .u8 19), .lit (.int .u8 9), .lit (.int .u8 13), .lit (.int .u8 8), .lit (.int .u8 7), .lit (.int .u8 6)]
def laid_math_bits_deBruijn32tab {H : Type} : DataW H := .agg [.lit (.int .u8 0), .lit (.int .u8 1), .lit (.int .u8 28), .lit (.int .u8 2), .lit (.int .u8 29), .lit (.int .u8 14), .lit (.int .u8 24), .lit (.int .u8 3), .lit (.int .u8 30), .lit (.int .u8 22), .lit (.int .u8 20), .lit (.int .u8 15), .lit (.int .u8 25), .lit (.int .u8 17), .lit (.int .u8 4), .lit (.int .u8 8), .lit (.int .u8 31), .lit (.int .u8 27), .lit (.int .u8 13), .lit (.int .u8 23), .lit (.int .u8 21), .lit (.int .u8 19), .lit (.int .u8 16), .lit (.int .u8 7), .lit (.int .u8 26), .lit (.int .u8 12), .lit (.int .u8 18), .lit (.int .u8 6), .lit (.int .u8 11), .lit (.int .u8 5), .lit (.int .u8 10), .lit (.int .u8 9)]
def laid_internal_strconv_uint64pow10 {H : Type} : DataW H := .agg [.lit (.int .u64 1), .lit (.int .u64 10), .lit (.int .u64 100), .lit (.int .u64 1000), .lit (.int .u64 10000), .lit (.int .u64 100000), .lit (.int .u64 1000000), .lit (.int .u64 10000000), .lit (.int .u64 100000000), .lit (.int .u64 1000000000), .lit (.int .u64 10000000000), .lit (.int .u64 100000000000), .lit (.int .u64 1000000000000), .lit (.int .u64 10000000000000), .lit (.int .u64 100000000000000), .lit (.int .u64 1000000000000000), .lit (.int .u64 10000000000000000), .lit (.int .u64 100000000000000000), .lit (.int .u64 1000000000000000000), .lit (.int .u64 10000000000000000000)]

/-- 'tiklaw23.DeckPlays': WHATEVER THE INPUT: true; the input reads as it did. -/
def deckPlaysSpec : ChangeSpec := { name := "deckPlays", fn := fun _ => fun
  | [d] => { results := [.lit (.bool true)], args := [d] }
  | _ => none }
def deckPlaysRow : OpenClaim := { program := "ytlgfmmkabnbllaadoor", sum := "63b4d202d83653433274f550a3bfb476b78e14814add5140c6c576ca383de6c2", func := "tickertape/tiklaw23.DeckPlays", spec := "deckPlays", inPlace := ["math/bits.Add64", "math.Float64frombits", "math.Float64bits", "math.RoundToEven"], named := ["math/bits.divideError", "math/bits.overflowError", "math/bits.deBruijn64tab"], apart := false, laid := [("math/bits.deBruijn64tab", laid_math_bits_deBruijn64tab)] }
def DeckPlaysSaid : Prop := deckPlaysRow.holds Tryd.pinned (OpenSpec.ofChange deckPlaysSpec)

/-- ITS FALSE NEIGHBOUR: 'it returns false'. Refute it at one input. -/
def deckPlaysWrong : ChangeSpec := { name := "deckPlays", fn := fun _ => fun
  | [d] => { results := [.lit (.bool false)], args := [d] }
  | _ => none }
def DeckPlaysWrongFalsely : Prop := deckPlaysRow.holds Tryd.pinned (OpenSpec.ofChange deckPlaysWrong)

/-- 'tiklaw23.DeckForward': WHATEVER THE INPUT: true; the input reads as it did. -/
def deckForwardSpec : ChangeSpec := { name := "deckForward", fn := fun _ => fun
  | [d1, d2, d3, d4, d5, d6] => { results := [.lit (.bool true)], args := [d1, d2, d3, d4, d5, d6] }
  | _ => none }
def deckForwardRow : OpenClaim := { program := "ytlgfmmkabnbllaadoor", sum := "63b4d202d83653433274f550a3bfb476b78e14814add5140c6c576ca383de6c2", func := "tickertape/tiklaw23.DeckForward", spec := "deckForward", inPlace := ["math/bits.Add64", "math.Float64frombits", "math.Float64bits", "math.RoundToEven"], named := ["math/bits.divideError", "math/bits.overflowError", "math/bits.deBruijn64tab"], apart := false, laid := [("math/bits.deBruijn64tab", laid_math_bits_deBruijn64tab)] }
def DeckForwardSaid : Prop := deckForwardRow.holds Tryd.pinned (OpenSpec.ofChange deckForwardSpec)

/-- ITS FALSE NEIGHBOUR: 'it returns false'. Refute it at one input. -/
def deckForwardWrong : ChangeSpec := { name := "deckForward", fn := fun _ => fun
  | [d1, d2, d3, d4, d5, d6] => { results := [.lit (.bool false)], args := [d1, d2, d3, d4, d5, d6] }
  | _ => none }
def DeckForwardWrongFalsely : Prop := deckForwardRow.holds Tryd.pinned (OpenSpec.ofChange deckForwardWrong)

/-- 'tiklaw23.DeckStands': WHATEVER THE INPUT: true; the input reads as it did. -/
def deckStandsSpec : ChangeSpec := { name := "deckStands", fn := fun _ => fun
  | [d1, d2, d3, d4, d5, d6] => { results := [.lit (.bool true)], args := [d1, d2, d3, d4, d5, d6] }
  | _ => none }
def deckStandsRow : OpenClaim := { program := "ytlgfmmkabnbllaadoor", sum := "63b4d202d83653433274f550a3bfb476b78e14814add5140c6c576ca383de6c2", func := "tickertape/tiklaw23.DeckStands", spec := "deckStands", inPlace := ["math/bits.Add64", "math.Float64frombits", "math.Float64bits", "math.RoundToEven"], named := ["math/bits.divideError", "math/bits.overflowError", "math/bits.deBruijn64tab"], apart := false, laid := [("math/bits.deBruijn64tab", laid_math_bits_deBruijn64tab)] }
def DeckStandsSaid : Prop := deckStandsRow.holds Tryd.pinned (OpenSpec.ofChange deckStandsSpec)

/-- ITS FALSE NEIGHBOUR: 'it returns false'. Refute it at one input. -/
def deckStandsWrong : ChangeSpec := { name := "deckStands", fn := fun _ => fun
  | [d1, d2, d3, d4, d5, d6] => { results := [.lit (.bool false)], args := [d1, d2, d3, d4, d5, d6] }
  | _ => none }
def DeckStandsWrongFalsely : Prop := deckStandsRow.holds Tryd.pinned (OpenSpec.ofChange deckStandsWrong)

/-- 'tiklaw23.DeckRates': WHATEVER THE INPUT: true; the input reads as it did. -/
def deckRatesSpec : ChangeSpec := { name := "deckRates", fn := fun _ => fun
  | [d1, d2, d3, d4, d5, d6] => { results := [.lit (.bool true)], args := [d1, d2, d3, d4, d5, d6] }
  | _ => none }
def deckRatesRow : OpenClaim := { program := "ytlgfmmkabnbllaadoor", sum := "63b4d202d83653433274f550a3bfb476b78e14814add5140c6c576ca383de6c2", func := "tickertape/tiklaw23.DeckRates", spec := "deckRates", inPlace := ["math/bits.Add64", "math.Float64frombits", "math.Float64bits", "math.RoundToEven"], named := ["math/bits.divideError", "math/bits.overflowError", "math/bits.deBruijn64tab"], apart := false, laid := [("math/bits.deBruijn64tab", laid_math_bits_deBruijn64tab)] }
def DeckRatesSaid : Prop := deckRatesRow.holds Tryd.pinned (OpenSpec.ofChange deckRatesSpec)

/-- ITS FALSE NEIGHBOUR: 'it returns false'. Refute it at one input. -/
def deckRatesWrong : ChangeSpec := { name := "deckRates", fn := fun _ => fun
  | [d1, d2, d3, d4, d5, d6] => { results := [.lit (.bool false)], args := [d1, d2, d3, d4, d5, d6] }
  | _ => none }
def DeckRatesWrongFalsely : Prop := deckRatesRow.holds Tryd.pinned (OpenSpec.ofChange deckRatesWrong)

/-- 'tiklaw23.DeckAir': WHATEVER THE INPUT: true; the input reads as it did. -/
def deckAirSpec : ChangeSpec := { name := "deckAir", fn := fun _ => fun
  | [d1, d2, d3, d4, d5] => { results := [.lit (.bool true)], args := [d1, d2, d3, d4, d5] }
  | _ => none }
def deckAirRow : OpenClaim := { program := "ytlgfmmkabnbllaadoor", sum := "63b4d202d83653433274f550a3bfb476b78e14814add5140c6c576ca383de6c2", func := "tickertape/tiklaw23.DeckAir", spec := "deckAir", inPlace := ["math/bits.Add64", "math.Float64frombits", "math.Float64bits", "math.RoundToEven"], named := ["math/bits.divideError", "math/bits.overflowError", "math/bits.deBruijn64tab"], apart := false, laid := [("math/bits.deBruijn64tab", laid_math_bits_deBruijn64tab)] }
def DeckAirSaid : Prop := deckAirRow.holds Tryd.pinned (OpenSpec.ofChange deckAirSpec)

/-- ITS FALSE NEIGHBOUR: 'it returns false'. Refute it at one input. -/
def deckAirWrong : ChangeSpec := { name := "deckAir", fn := fun _ => fun
  | [d1, d2, d3, d4, d5] => { results := [.lit (.bool false)], args := [d1, d2, d3, d4, d5] }
  | _ => none }
def DeckAirWrongFalsely : Prop := deckAirRow.holds Tryd.pinned (OpenSpec.ofChange deckAirWrong)

/-- 'tiklaw16.SegTells': WHATEVER THE INPUT: true; the input reads as it did. -/
def segTellsSpec : ChangeSpec := { name := "segTells", fn := fun _ => fun
  | [d1, d2, d3, d4] => { results := [.lit (.bool true)], args := [d1, d2, d3, d4] }
  | _ => none }
def segTellsRow : OpenClaim := { program := "ytlgfmmkabnbllaadoor", sum := "63b4d202d83653433274f550a3bfb476b78e14814add5140c6c576ca383de6c2", func := "tickertape/tiklaw16.SegTells", spec := "segTells", unfollowed := true, recurses := true, named := ["internal/strconv.uint64pow10", "math/bits.deBruijn32tab", "math/bits.deBruijn64tab"], apart := false, laid := [("math/bits.deBruijn32tab", laid_math_bits_deBruijn32tab), ("math/bits.deBruijn64tab", laid_math_bits_deBruijn64tab), ("internal/strconv.uint64pow10", laid_internal_strconv_uint64pow10)] }
def SegTellsSaid : Prop := segTellsRow.holds Tryd.pinned (OpenSpec.ofChange segTellsSpec)

/-- ITS FALSE NEIGHBOUR: 'it returns false'. Refute it at one input. -/
def segTellsWrong : ChangeSpec := { name := "segTells", fn := fun _ => fun
  | [d1, d2, d3, d4] => { results := [.lit (.bool false)], args := [d1, d2, d3, d4] }
  | _ => none }
def SegTellsWrongFalsely : Prop := segTellsRow.holds Tryd.pinned (OpenSpec.ofChange segTellsWrong)

/-- 'tiklaw16.SegNames': WHATEVER THE INPUT: true; the input reads as it did. -/
def segNamesSpec : ChangeSpec := { name := "segNames", fn := fun _ => fun
  | [d1, d2, d3] => { results := [.lit (.bool true)], args := [d1, d2, d3] }
  | _ => none }
def segNamesRow : OpenClaim := { program := "ytlgfmmkabnbllaadoor", sum := "63b4d202d83653433274f550a3bfb476b78e14814add5140c6c576ca383de6c2", func := "tickertape/tiklaw16.SegNames", spec := "segNames", unfollowed := true, recurses := true, named := ["internal/strconv.uint64pow10", "math/bits.deBruijn32tab", "math/bits.deBruijn64tab"], apart := false, laid := [("math/bits.deBruijn32tab", laid_math_bits_deBruijn32tab), ("math/bits.deBruijn64tab", laid_math_bits_deBruijn64tab), ("internal/strconv.uint64pow10", laid_internal_strconv_uint64pow10)] }
def SegNamesSaid : Prop := segNamesRow.holds Tryd.pinned (OpenSpec.ofChange segNamesSpec)

/-- ITS FALSE NEIGHBOUR: 'it returns false'. Refute it at one input. -/
def segNamesWrong : ChangeSpec := { name := "segNames", fn := fun _ => fun
  | [d1, d2, d3] => { results := [.lit (.bool false)], args := [d1, d2, d3] }
  | _ => none }
def SegNamesWrongFalsely : Prop := segNamesRow.holds Tryd.pinned (OpenSpec.ofChange segNamesWrong)

/-- 'tiklaw16.SegBack': WHATEVER THE INPUT: true; the input reads as it did. -/
def segBackSpec : ChangeSpec := { name := "segBack", fn := fun _ => fun
  | [d1, d2, d3] => { results := [.lit (.bool true)], args := [d1, d2, d3] }
  | _ => none }
def segBackRow : OpenClaim := { program := "ytlgfmmkabnbllaadoor", sum := "63b4d202d83653433274f550a3bfb476b78e14814add5140c6c576ca383de6c2", func := "tickertape/tiklaw16.SegBack", spec := "segBack", inPlace := ["internal/bytealg.MakeNoZero"], unfollowed := true, recurses := true, named := ["internal/strconv.uint64pow10", "math/bits.deBruijn32tab", "math/bits.deBruijn64tab"], apart := false, laid := [("math/bits.deBruijn32tab", laid_math_bits_deBruijn32tab), ("math/bits.deBruijn64tab", laid_math_bits_deBruijn64tab), ("internal/strconv.uint64pow10", laid_internal_strconv_uint64pow10)] }
def SegBackSaid : Prop := segBackRow.holds Tryd.pinned (OpenSpec.ofChange segBackSpec)

/-- ITS FALSE NEIGHBOUR: 'it returns false'. Refute it at one input. -/
def segBackWrong : ChangeSpec := { name := "segBack", fn := fun _ => fun
  | [d1, d2, d3] => { results := [.lit (.bool false)], args := [d1, d2, d3] }
  | _ => none }
def SegBackWrongFalsely : Prop := segBackRow.holds Tryd.pinned (OpenSpec.ofChange segBackWrong)

/-- 'tiklaw16.SegStops': WHATEVER THE INPUT: true; the input reads as it did. -/
def segStopsSpec : ChangeSpec := { name := "segStops", fn := fun _ => fun
  | [d1, d2] => { results := [.lit (.bool true)], args := [d1, d2] }
  | _ => none }
def segStopsRow : OpenClaim := { program := "ytlgfmmkabnbllaadoor", sum := "63b4d202d83653433274f550a3bfb476b78e14814add5140c6c576ca383de6c2", func := "tickertape/tiklaw16.SegStops", spec := "segStops", inPlace := ["internal/bytealg.MakeNoZero"], unfollowed := true, recurses := true, named := ["internal/strconv.uint64pow10", "math/bits.deBruijn32tab", "math/bits.deBruijn64tab"], apart := false, laid := [("math/bits.deBruijn32tab", laid_math_bits_deBruijn32tab), ("math/bits.deBruijn64tab", laid_math_bits_deBruijn64tab), ("internal/strconv.uint64pow10", laid_internal_strconv_uint64pow10)] }
def SegStopsSaid : Prop := segStopsRow.holds Tryd.pinned (OpenSpec.ofChange segStopsSpec)

/-- ITS FALSE NEIGHBOUR: 'it returns false'. Refute it at one input. -/
def segStopsWrong : ChangeSpec := { name := "segStops", fn := fun _ => fun
  | [d1, d2] => { results := [.lit (.bool false)], args := [d1, d2] }
  | _ => none }
def SegStopsWrongFalsely : Prop := segStopsRow.holds Tryd.pinned (OpenSpec.ofChange segStopsWrong)

/- THE SECOND FORM. 'bulk': how many values and letters a reading holds, each counted each time it is reached (what is shared counts as often as it is met; a slice's spare places count too). A statement '..UptoSaid' is the law's where the arguments, and the package variables that the reading takes, are together of bulk at most 1048576: NARROWER than '..Said'. Prove '..Said' where nothing that the law and all that it calls make is longer than what came in: it says more and counts as full. Else prove '..UptoSaid'. A law counts once. -/
mutual
def uptoBulk {H : Type} : DataW H → Nat
  | .lit (.string bytes) => bytes.length + 1
  | .lit _ => 1
  | .nil => 1
  | .ptr d => uptoBulk d + 1
  | .slice elems spare => uptoBulkAll elems + uptoBulkAll spare + 1
  | .agg parts => uptoBulkAll parts + 1
  | .iface _ d => uptoBulk d + 1
  | .map entries => uptoBulkEntries entries + 1
  | .held _ => 1
def uptoBulkAll {H : Type} : List (DataW H) → Nat
  | [] => 0
  | d :: r => uptoBulk d + uptoBulkAll r
def uptoBulkEntries {H : Type} : List (Lit × DataW H) → Nat
  | [] => 0
  | x :: r => uptoBulkEntry x + uptoBulkEntries r
def uptoBulkEntry {H : Type} : Lit × DataW H → Nat
  | (.string bytes, d) => bytes.length + uptoBulk d + 1
  | (_, d) => uptoBulk d + 1
 end
def uptoSmall : (H : Type) → List (DataW H) → Bool := fun _ ds => decide (uptoBulkAll ds ≤ 1048576)
def OpenSpec.upto (s : _root_.Go.ChangeSpec) : _root_.Go.OpenSpec := { _root_.Go.OpenSpec.ofChange s with cond := some uptoSmall }

/-- 'tiklaw23.DeckPlays', WHERE WHAT IT READS IS OF BULK AT MOST 1048576: true; the input reads as it did. -/
def deckPlaysUptoRow : OpenClaim := { program := "ytlgfmmkabnbllaadoor", sum := "63b4d202d83653433274f550a3bfb476b78e14814add5140c6c576ca383de6c2", func := "tickertape/tiklaw23.DeckPlays", spec := "deckPlays", inPlace := ["math/bits.Add64", "math.Float64frombits", "math.Float64bits", "math.RoundToEven"], named := ["math/bits.divideError", "math/bits.overflowError", "math/bits.deBruijn64tab"], apart := false, laid := [("math/bits.deBruijn64tab", laid_math_bits_deBruijn64tab)], narrowed := true }
def DeckPlaysUptoSaid : Prop := deckPlaysUptoRow.holds Tryd.pinned (OpenSpec.upto deckPlaysSpec)

/-- 'tiklaw23.DeckForward', WHERE WHAT IT READS IS OF BULK AT MOST 1048576: true; the input reads as it did. -/
def deckForwardUptoRow : OpenClaim := { program := "ytlgfmmkabnbllaadoor", sum := "63b4d202d83653433274f550a3bfb476b78e14814add5140c6c576ca383de6c2", func := "tickertape/tiklaw23.DeckForward", spec := "deckForward", inPlace := ["math/bits.Add64", "math.Float64frombits", "math.Float64bits", "math.RoundToEven"], named := ["math/bits.divideError", "math/bits.overflowError", "math/bits.deBruijn64tab"], apart := false, laid := [("math/bits.deBruijn64tab", laid_math_bits_deBruijn64tab)], narrowed := true }
def DeckForwardUptoSaid : Prop := deckForwardUptoRow.holds Tryd.pinned (OpenSpec.upto deckForwardSpec)

/-- 'tiklaw23.DeckStands', WHERE WHAT IT READS IS OF BULK AT MOST 1048576: true; the input reads as it did. -/
def deckStandsUptoRow : OpenClaim := { program := "ytlgfmmkabnbllaadoor", sum := "63b4d202d83653433274f550a3bfb476b78e14814add5140c6c576ca383de6c2", func := "tickertape/tiklaw23.DeckStands", spec := "deckStands", inPlace := ["math/bits.Add64", "math.Float64frombits", "math.Float64bits", "math.RoundToEven"], named := ["math/bits.divideError", "math/bits.overflowError", "math/bits.deBruijn64tab"], apart := false, laid := [("math/bits.deBruijn64tab", laid_math_bits_deBruijn64tab)], narrowed := true }
def DeckStandsUptoSaid : Prop := deckStandsUptoRow.holds Tryd.pinned (OpenSpec.upto deckStandsSpec)

/-- 'tiklaw23.DeckRates', WHERE WHAT IT READS IS OF BULK AT MOST 1048576: true; the input reads as it did. -/
def deckRatesUptoRow : OpenClaim := { program := "ytlgfmmkabnbllaadoor", sum := "63b4d202d83653433274f550a3bfb476b78e14814add5140c6c576ca383de6c2", func := "tickertape/tiklaw23.DeckRates", spec := "deckRates", inPlace := ["math/bits.Add64", "math.Float64frombits", "math.Float64bits", "math.RoundToEven"], named := ["math/bits.divideError", "math/bits.overflowError", "math/bits.deBruijn64tab"], apart := false, laid := [("math/bits.deBruijn64tab", laid_math_bits_deBruijn64tab)], narrowed := true }
def DeckRatesUptoSaid : Prop := deckRatesUptoRow.holds Tryd.pinned (OpenSpec.upto deckRatesSpec)

/-- 'tiklaw23.DeckAir', WHERE WHAT IT READS IS OF BULK AT MOST 1048576: true; the input reads as it did. -/
def deckAirUptoRow : OpenClaim := { program := "ytlgfmmkabnbllaadoor", sum := "63b4d202d83653433274f550a3bfb476b78e14814add5140c6c576ca383de6c2", func := "tickertape/tiklaw23.DeckAir", spec := "deckAir", inPlace := ["math/bits.Add64", "math.Float64frombits", "math.Float64bits", "math.RoundToEven"], named := ["math/bits.divideError", "math/bits.overflowError", "math/bits.deBruijn64tab"], apart := false, laid := [("math/bits.deBruijn64tab", laid_math_bits_deBruijn64tab)], narrowed := true }
def DeckAirUptoSaid : Prop := deckAirUptoRow.holds Tryd.pinned (OpenSpec.upto deckAirSpec)

/-- 'tiklaw16.SegTells', WHERE WHAT IT READS IS OF BULK AT MOST 1048576: true; the input reads as it did. -/
def segTellsUptoRow : OpenClaim := { program := "ytlgfmmkabnbllaadoor", sum := "63b4d202d83653433274f550a3bfb476b78e14814add5140c6c576ca383de6c2", func := "tickertape/tiklaw16.SegTells", spec := "segTells", unfollowed := true, recurses := true, named := ["internal/strconv.uint64pow10", "math/bits.deBruijn32tab", "math/bits.deBruijn64tab"], apart := false, laid := [("math/bits.deBruijn32tab", laid_math_bits_deBruijn32tab), ("math/bits.deBruijn64tab", laid_math_bits_deBruijn64tab), ("internal/strconv.uint64pow10", laid_internal_strconv_uint64pow10)], narrowed := true }
def SegTellsUptoSaid : Prop := segTellsUptoRow.holds Tryd.pinned (OpenSpec.upto segTellsSpec)

/-- 'tiklaw16.SegNames', WHERE WHAT IT READS IS OF BULK AT MOST 1048576: true; the input reads as it did. -/
def segNamesUptoRow : OpenClaim := { program := "ytlgfmmkabnbllaadoor", sum := "63b4d202d83653433274f550a3bfb476b78e14814add5140c6c576ca383de6c2", func := "tickertape/tiklaw16.SegNames", spec := "segNames", unfollowed := true, recurses := true, named := ["internal/strconv.uint64pow10", "math/bits.deBruijn32tab", "math/bits.deBruijn64tab"], apart := false, laid := [("math/bits.deBruijn32tab", laid_math_bits_deBruijn32tab), ("math/bits.deBruijn64tab", laid_math_bits_deBruijn64tab), ("internal/strconv.uint64pow10", laid_internal_strconv_uint64pow10)], narrowed := true }
def SegNamesUptoSaid : Prop := segNamesUptoRow.holds Tryd.pinned (OpenSpec.upto segNamesSpec)

/-- 'tiklaw16.SegBack', WHERE WHAT IT READS IS OF BULK AT MOST 1048576: true; the input reads as it did. -/
def segBackUptoRow : OpenClaim := { program := "ytlgfmmkabnbllaadoor", sum := "63b4d202d83653433274f550a3bfb476b78e14814add5140c6c576ca383de6c2", func := "tickertape/tiklaw16.SegBack", spec := "segBack", inPlace := ["internal/bytealg.MakeNoZero"], unfollowed := true, recurses := true, named := ["internal/strconv.uint64pow10", "math/bits.deBruijn32tab", "math/bits.deBruijn64tab"], apart := false, laid := [("math/bits.deBruijn32tab", laid_math_bits_deBruijn32tab), ("math/bits.deBruijn64tab", laid_math_bits_deBruijn64tab), ("internal/strconv.uint64pow10", laid_internal_strconv_uint64pow10)], narrowed := true }
def SegBackUptoSaid : Prop := segBackUptoRow.holds Tryd.pinned (OpenSpec.upto segBackSpec)

/-- 'tiklaw16.SegStops', WHERE WHAT IT READS IS OF BULK AT MOST 1048576: true; the input reads as it did. -/
def segStopsUptoRow : OpenClaim := { program := "ytlgfmmkabnbllaadoor", sum := "63b4d202d83653433274f550a3bfb476b78e14814add5140c6c576ca383de6c2", func := "tickertape/tiklaw16.SegStops", spec := "segStops", inPlace := ["internal/bytealg.MakeNoZero"], unfollowed := true, recurses := true, named := ["internal/strconv.uint64pow10", "math/bits.deBruijn32tab", "math/bits.deBruijn64tab"], apart := false, laid := [("math/bits.deBruijn32tab", laid_math_bits_deBruijn32tab), ("math/bits.deBruijn64tab", laid_math_bits_deBruijn64tab), ("internal/strconv.uint64pow10", laid_internal_strconv_uint64pow10)], narrowed := true }
def SegStopsUptoSaid : Prop := segStopsUptoRow.holds Tryd.pinned (OpenSpec.upto segStopsSpec)

end Rows
end Go.Proofs.YtlgfmmkabnbllaaDoor
