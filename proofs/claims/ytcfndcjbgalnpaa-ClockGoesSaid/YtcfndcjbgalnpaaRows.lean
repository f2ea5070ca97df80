/-
  No cell of these rows narrows 'for every input' (looked for: loops, veiled, ifaces, maps, wideKeys, modest, calm, conditions, laid).
  DERIVED. THE GIVEN ROWS OF THIS SEAT. 4 by the template 'for every input the law returns true; each argument reads behind the call as it read before'; 0 by the template 'total and deterministic' (their statements: YtcfndcjbgalnpaaTotals.lean).
  GIVEN WITH THE SEED: the statements are not yours to turn. If you find one false, say at which input.
  Laid BY PROGRAM, IN A SANDBOX (cutbox-rows.mjs): the forced cells as the released guide's own fill.sh prints them over the translation d267bc56c1b6621b… (all of the seat's roots in one cut). By AI agents, Wed Nov 11 2026. No macro, syntax, notation, axiom, sorry.
-/
import Derived.Test.YtcfndcjbgalnpaaChecked
import GoSem.Claim
import GoSem.ClaimJoined
import GoSem.ClaimMapViews
import Derived.JoinedTies
import Derived.KernelRfl
namespace Go.Proofs.Ytcfndcjbgalnpaa
/- THE CELL 'sum', in the pinned program and in every row, IS THE sha256 OF THE DUMP (.gsa) THAT YtcfndcjbgalnpaaProg.lean LOADS. Nothing in Lean hashes anything: it is a label: what it is worth is what the hold of that sum in a sandbox is worth. -/
noncomputable def Try.pinned : Pinned := { name := "ytcfndcjbgalnpaa", sum := "d267bc56c1b6621b07d2d4aa635ae4e266273d3130f27d1c8461b96e24a11b73", checked := Try.checked }
namespace Rows
def none {H : Type} : Left H := { results := [], args := [] }

/-- 'tiklaw22.ClockSteps': WHATEVER THE INPUT: true; the input reads as it did. -/
def clockStepsSpec : ChangeSpec := { name := "clockSteps", fn := fun _ => fun
  | [d1, d2, d3, d4] => { results := [.lit (.bool true)], args := [d1, d2, d3, d4] }
  | _ => none }
def clockStepsRow : OpenClaim := { program := "ytcfndcjbgalnpaa", sum := "d267bc56c1b6621b07d2d4aa635ae4e266273d3130f27d1c8461b96e24a11b73", func := "tickertape/tiklaw22.ClockSteps", spec := "clockSteps", inPlace := ["math/bits.Add64"], named := ["math/bits.divideError", "math/bits.overflowError"], apart := false }
def ClockStepsSaid : Prop := clockStepsRow.holds Try.pinned (OpenSpec.ofChange clockStepsSpec)

/-- ITS FALSE NEIGHBOUR: 'it returns false'. Refute it at one input. -/
def clockStepsWrong : ChangeSpec := { name := "clockSteps", fn := fun _ => fun
  | [d1, d2, d3, d4] => { results := [.lit (.bool false)], args := [d1, d2, d3, d4] }
  | _ => none }
def ClockStepsWrongFalsely : Prop := clockStepsRow.holds Try.pinned (OpenSpec.ofChange clockStepsWrong)

/-- 'tiklaw22.ClockSpeeds': WHATEVER THE INPUT: true; the input reads as it did. -/
def clockSpeedsSpec : ChangeSpec := { name := "clockSpeeds", fn := fun _ => fun
  | [d1, d2, d3, d4, d5] => { results := [.lit (.bool true)], args := [d1, d2, d3, d4, d5] }
  | _ => none }
def clockSpeedsRow : OpenClaim := { program := "ytcfndcjbgalnpaa", sum := "d267bc56c1b6621b07d2d4aa635ae4e266273d3130f27d1c8461b96e24a11b73", func := "tickertape/tiklaw22.ClockSpeeds", spec := "clockSpeeds", inPlace := ["math/bits.Add64"], named := ["math/bits.divideError", "math/bits.overflowError"], apart := false }
def ClockSpeedsSaid : Prop := clockSpeedsRow.holds Try.pinned (OpenSpec.ofChange clockSpeedsSpec)

/-- ITS FALSE NEIGHBOUR: 'it returns false'. Refute it at one input. -/
def clockSpeedsWrong : ChangeSpec := { name := "clockSpeeds", fn := fun _ => fun
  | [d1, d2, d3, d4, d5] => { results := [.lit (.bool false)], args := [d1, d2, d3, d4, d5] }
  | _ => none }
def ClockSpeedsWrongFalsely : Prop := clockSpeedsRow.holds Try.pinned (OpenSpec.ofChange clockSpeedsWrong)

/-- 'tiklaw22.ClockTurns': WHATEVER THE INPUT: true; the input reads as it did. -/
def clockTurnsSpec : ChangeSpec := { name := "clockTurns", fn := fun _ => fun
  | [d1, d2, d3, d4, d5] => { results := [.lit (.bool true)], args := [d1, d2, d3, d4, d5] }
  | _ => none }
def clockTurnsRow : OpenClaim := { program := "ytcfndcjbgalnpaa", sum := "d267bc56c1b6621b07d2d4aa635ae4e266273d3130f27d1c8461b96e24a11b73", func := "tickertape/tiklaw22.ClockTurns", spec := "clockTurns", inPlace := ["math/bits.Add64"], named := ["math/bits.divideError", "math/bits.overflowError"], apart := false }
def ClockTurnsSaid : Prop := clockTurnsRow.holds Try.pinned (OpenSpec.ofChange clockTurnsSpec)

/-- ITS FALSE NEIGHBOUR: 'it returns false'. Refute it at one input. -/
def clockTurnsWrong : ChangeSpec := { name := "clockTurns", fn := fun _ => fun
  | [d1, d2, d3, d4, d5] => { results := [.lit (.bool false)], args := [d1, d2, d3, d4, d5] }
  | _ => none }
def ClockTurnsWrongFalsely : Prop := clockTurnsRow.holds Try.pinned (OpenSpec.ofChange clockTurnsWrong)

/-- 'tiklaw22.ClockGoes': WHATEVER THE INPUT: true; the input reads as it did. -/
def clockGoesSpec : ChangeSpec := { name := "clockGoes", fn := fun _ => fun
  | [d1, d2, d3, d4] => { results := [.lit (.bool true)], args := [d1, d2, d3, d4] }
  | _ => none }
def clockGoesRow : OpenClaim := { program := "ytcfndcjbgalnpaa", sum := "d267bc56c1b6621b07d2d4aa635ae4e266273d3130f27d1c8461b96e24a11b73", func := "tickertape/tiklaw22.ClockGoes", spec := "clockGoes", inPlace := ["math/bits.Add64"], named := ["math/bits.divideError", "math/bits.overflowError"], apart := false }
def ClockGoesSaid : Prop := clockGoesRow.holds Try.pinned (OpenSpec.ofChange clockGoesSpec)

/-- ITS FALSE NEIGHBOUR: 'it returns false'. Refute it at one input. -/
def clockGoesWrong : ChangeSpec := { name := "clockGoes", fn := fun _ => fun
  | [d1, d2, d3, d4] => { results := [.lit (.bool false)], args := [d1, d2, d3, d4] }
  | _ => none }
def ClockGoesWrongFalsely : Prop := clockGoesRow.holds Try.pinned (OpenSpec.ofChange clockGoesWrong)

/- THE SECOND FORM. 'bulk': how many values and letters a reading holds, each counted each time it is reached (what is shared counts as often as it is met; a slice's spare places count too). A statement '..UptoSaid' is the law's where the arguments, and the package variables that the reading takes, are together of bulk at most 1048576: NARROWER than '..Said'. Prove '..Said' where nothing that the law and all that it calls make is longer than what came in: it says more and counts as full. Else prove '..UptoSaid'. A law counts once. -/
mutual
def uptoBulk {H : Type} : DataW H → Nat
  | .lit (.string bytes) => bytes.length + 1
  | .lit _ => 1
  | .nil => 1
  | .ptr d => uptoBulk d + 1
  | .slice elems spare => uptoBulkAll elems + uptoBulkAll spare + 1
  | .agg parts => uptoBulkAll parts + 1
  | .iface _ d => uptoBulk d + 1
  | .map entries => uptoBulkEntries entries + 1
  | .held _ => 1
def uptoBulkAll {H : Type} : List (DataW H) → Nat
  | [] => 0
  | d :: r => uptoBulk d + uptoBulkAll r
def uptoBulkEntries {H : Type} : List (Lit × DataW H) → Nat
  | [] => 0
  | x :: r => uptoBulkEntry x + uptoBulkEntries r
def uptoBulkEntry {H : Type} : Lit × DataW H → Nat
  | (.string bytes, d) => bytes.length + uptoBulk d + 1
  | (_, d) => uptoBulk d + 1
 end
def uptoSmall : (H : Type) → List (DataW H) → Bool := fun _ ds => decide (uptoBulkAll ds ≤ 1048576)
def OpenSpec.upto (s : _root_.Go.ChangeSpec) : _root_.Go.OpenSpec := { _root_.Go.OpenSpec.ofChange s with cond := some uptoSmall }

/-- 'tiklaw22.ClockSteps', WHERE WHAT IT READS IS OF BULK AT MOST 1048576: true; the input reads as it did. -/
def clockStepsUptoRow : OpenClaim := { program := "ytcfndcjbgalnpaa", sum := "d267bc56c1b6621b07d2d4aa635ae4e266273d3130f27d1c8461b96e24a11b73", func := "tickertape/tiklaw22.ClockSteps", spec := "clockSteps", inPlace := ["math/bits.Add64"], named := ["math/bits.divideError", "math/bits.overflowError"], apart := false, narrowed := true }
def ClockStepsUptoSaid : Prop := clockStepsUptoRow.holds Try.pinned (OpenSpec.upto clockStepsSpec)

/-- 'tiklaw22.ClockSpeeds', WHERE WHAT IT READS IS OF BULK AT MOST 1048576: true; the input reads as it did. -/
def clockSpeedsUptoRow : OpenClaim := { program := "ytcfndcjbgalnpaa", sum := "d267bc56c1b6621b07d2d4aa635ae4e266273d3130f27d1c8461b96e24a11b73", func := "tickertape/tiklaw22.ClockSpeeds", spec := "clockSpeeds", inPlace := ["math/bits.Add64"], named := ["math/bits.divideError", "math/bits.overflowError"], apart := false, narrowed := true }
def ClockSpeedsUptoSaid : Prop := clockSpeedsUptoRow.holds Try.pinned (OpenSpec.upto clockSpeedsSpec)

/-- 'tiklaw22.ClockTurns', WHERE WHAT IT READS IS OF BULK AT MOST 1048576: true; the input reads as it did. -/
def clockTurnsUptoRow : OpenClaim := { program := "ytcfndcjbgalnpaa", sum := "d267bc56c1b6621b07d2d4aa635ae4e266273d3130f27d1c8461b96e24a11b73", func := "tickertape/tiklaw22.ClockTurns", spec := "clockTurns", inPlace := ["math/bits.Add64"], named := ["math/bits.divideError", "math/bits.overflowError"], apart := false, narrowed := true }
def ClockTurnsUptoSaid : Prop := clockTurnsUptoRow.holds Try.pinned (OpenSpec.upto clockTurnsSpec)

/-- 'tiklaw22.ClockGoes', WHERE WHAT IT READS IS OF BULK AT MOST 1048576: true; the input reads as it did. -/
def clockGoesUptoRow : OpenClaim := { program := "ytcfndcjbgalnpaa", sum := "d267bc56c1b6621b07d2d4aa635ae4e266273d3130f27d1c8461b96e24a11b73", func := "tickertape/tiklaw22.ClockGoes", spec := "clockGoes", inPlace := ["math/bits.Add64"], named := ["math/bits.divideError", "math/bits.overflowError"], apart := false, narrowed := true }
def ClockGoesUptoSaid : Prop := clockGoesUptoRow.holds Try.pinned (OpenSpec.upto clockGoesSpec)

end Rows
end Go.Proofs.Ytcfndcjbgalnpaa
