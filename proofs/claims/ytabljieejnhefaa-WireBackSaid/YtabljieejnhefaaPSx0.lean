-- written for this claim by mp.py (this repo), with the kit's print; checked by the kernel alone
import Derived.Test.YtabljieejnhefaaProg
import Derived.Below
import Derived.Deep.Draws
import Derived.Deep.AppendLies
import Derived.Maps.AppendAt
import Derived.OwnWalk
import Derived.Laws.BytesArg
import Derived.Laws.MakeOwn
import Derived.Laws.OwnMore
import Derived.Deep.OwnRows
import Derived.Tactics
import Derived.Lib.ConvBytes
import Derived.Laws.Slices
import Derived.WalkKit
import Derived.KernelRfl
import Derived.RowKit3
import Derived.Deep.LoopGhost
import Derived.Deep.QuietTactic
import Derived.BigQuiet
import Derived.WideLaws
import Derived.Deep.DeepCutAuto
import Derived.Deep.CutBlock
import Derived.Deep.RegionHeld3
import Derived.Laws.Rows
import Derived.Lib.AppendStr
import Derived.ArgAppend
import Derived.Laws.IdiomCopy
import Derived.OrdersHeld
import Derived.Laws.BitsLemmas
import Derived.RowKit
import Derived.Test.YtabljieejnhefaaWire11
import Derived.Test.YtabljieejnhefaaWWords
import Derived.Test.YtabljieejnhefaaWLast
import Derived.Test.YtabljieejnhefaaWTab
import Derived.Test.YtabljieejnhefaaWFour
import Derived.Test.YtabljieejnhefaaWQPut
import Derived.Test.YtabljieejnhefaaWApart
import Derived.Test.YtabljieejnhefaaWArr
import Derived.Test.YtabljieejnhefaaWZeros
import Derived.Test.YtabljieejnhefaaWFoot
import Derived.Test.YtabljieejnhefaaWKept
import Derived.Test.YtabljieejnhefaaWShare
import Derived.Test.YtabljieejnhefaaWN
import Derived.Test.YtabljieejnhefaaWFootNe
import Derived.Test.YtabljieejnhefaaWAt
import Derived.Test.YtabljieejnhefaaWEqStruct
import Derived.Test.YtabljieejnhefaaWRepsOne
import Derived.Test.YtabljieejnhefaaWInv
import Derived.Test.YtabljieejnhefaaWInvWords
import Derived.Test.YtabljieejnhefaaWGuard
import Derived.Test.YtabljieejnhefaaWNEv
import Derived.Test.YtabljieejnhefaaWMore
namespace Go.Proofs.Ytabljieejnhefaa.PS
open Go.RowKit Go.Proofs.YtabljieejnhefaaW.PrintWords Go.Proofs.YtabljieejnhefaaW.PrintLast Go.Proofs.YtabljieejnhefaaW.PrintMore
attribute [local go_sem] max2_int min2_int max_two min_two max_three min_three max_four min_four   -- for this text's walks alone
open Go.Proofs.Ytabljieejnhefaa.Hand
open Go.Proofs.Ytabljieejnhefaa.PA
set_option linter.unusedVariables false
set_option linter.unusedSimpArgs false



def errW : Option Int → Value
  | none => .nilIface
  | some c => .iface 0 (.int .i64 c)
theorem errW_none : errW none = .nilIface := rfl
theorem errW_some (c : Int) : errW (some c) = .iface 0 (.int .i64 c) := rfl

theorem info5 : (Try.prog.info? 5).map (fun i => (i.zero, i.size, i.bytes)) = some (some (.int .u8 0), 1, 1) := by kernel_rfl
-- the values' own types

end Go.Proofs.Ytabljieejnhefaa.PS
