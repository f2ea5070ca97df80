-- written for this claim by mp.py (this repo), with the kit's print; checked by the kernel alone
import Derived.Test.YtcfndcjbgalnpaaProg
import Derived.Below
import Derived.Deep.Draws
import Derived.Deep.AppendLies
import Derived.Maps.AppendAt
import Derived.OwnWalk
import Derived.Laws.BytesArg
import Derived.Laws.MakeOwn
import Derived.Laws.OwnMore
import Derived.Deep.OwnRows
import Derived.Tactics
import Derived.Lib.ConvBytes
import Derived.Laws.Slices
import Derived.WalkKit
import Derived.KernelRfl
import Derived.RowKit3
import Derived.Deep.LoopGhost
import Derived.Deep.QuietTactic
import Derived.BigQuiet
import Derived.WideLaws
import Derived.Deep.DeepCutAuto
import Derived.Deep.CutBlock
import Derived.Deep.RegionHeld3
import Derived.Laws.Rows
import Derived.Lib.AppendStr
import Derived.ArgAppend
import Derived.Laws.IdiomCopy
import Derived.OrdersHeld
import Derived.Laws.BitsLemmas
import Derived.RowKit
import Derived.Test.YtcfndcjbgalnpaaRate1
import Derived.Test.YtcfndcjbgalnpaaWWords
import Derived.Test.YtcfndcjbgalnpaaWLast
import Derived.Test.YtcfndcjbgalnpaaWTab
import Derived.Test.YtcfndcjbgalnpaaWFour
import Derived.Test.YtcfndcjbgalnpaaWQPut
import Derived.Test.YtcfndcjbgalnpaaWApart
import Derived.Test.YtcfndcjbgalnpaaWArr
import Derived.Test.YtcfndcjbgalnpaaWZeros
import Derived.Test.YtcfndcjbgalnpaaWFoot
import Derived.Test.YtcfndcjbgalnpaaWKept
import Derived.Test.YtcfndcjbgalnpaaWShare
import Derived.Test.YtcfndcjbgalnpaaWN
import Derived.Test.YtcfndcjbgalnpaaWFootNe
import Derived.Test.YtcfndcjbgalnpaaWAt
import Derived.Test.YtcfndcjbgalnpaaWEqStruct
import Derived.Test.YtcfndcjbgalnpaaWRepsOne
import Derived.Test.YtcfndcjbgalnpaaWInv
import Derived.Test.YtcfndcjbgalnpaaWInvWords
import Derived.Test.YtcfndcjbgalnpaaWGuard
import Derived.Test.YtcfndcjbgalnpaaWNEv
import Derived.Test.YtcfndcjbgalnpaaWMore
namespace Go.Proofs.Ytcfndcjbgalnpaa.PB
open Go.RowKit Go.Proofs.YtcfndcjbgalnpaaW.PrintWords Go.Proofs.YtcfndcjbgalnpaaW.PrintLast Go.Proofs.YtcfndcjbgalnpaaW.PrintMore
attribute [local go_sem] max2_int min2_int max_two min_two max_three min_three max_four min_four   -- for this text's walks alone
open Go.Proofs.Ytcfndcjbgalnpaa.Hand
open Go.Proofs.Ytcfndcjbgalnpaa.PA
set_option linter.unusedVariables false
set_option linter.unusedSimpArgs false



def errW : Option Int → Value
  | none => .nilIface
  | some c => .iface 0 (.int .i64 c)
theorem errW_none : errW none = .nilIface := rfl
theorem errW_some (c : Int) : errW (some c) = .iface 0 (.int .i64 c) := rfl

-- the values' own types

end Go.Proofs.Ytcfndcjbgalnpaa.PB
