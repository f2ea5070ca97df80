-- written for this claim by mp.py (this repo), with the kit's print; checked by the kernel alone
import Derived.Test.YtpebcphkockkkaaDoorProg
import Derived.Below
import Derived.Deep.Draws
import Derived.Deep.AppendLies
import Derived.Maps.AppendAt
import Derived.OwnWalk
import Derived.Laws.BytesArg
import Derived.Laws.MakeOwn
import Derived.Laws.OwnMore
import Derived.Deep.OwnRows
import Derived.Tactics
import Derived.Lib.ConvBytes
import Derived.Laws.Slices
import Derived.WalkKit
import Derived.KernelRfl
import Derived.RowKit3
import Derived.Deep.LoopGhost
import Derived.Deep.QuietTactic
import Derived.BigQuiet
import Derived.WideLaws
import Derived.Deep.DeepCutAuto
import Derived.Deep.CutBlock
import Derived.Deep.RegionHeld3
import Derived.Laws.Rows
import Derived.Lib.AppendStr
import Derived.ArgAppend
import Derived.Laws.IdiomCopy
import Derived.OrdersHeld
import Derived.Laws.BitsLemmas
import Derived.RowKit
import Derived.Test.YtpebcphkockkkaaDoorRWalk2
import Derived.Test.YtpebcphkockkkaaDoorWWords
import Derived.Test.YtpebcphkockkkaaDoorWLast
import Derived.Test.YtpebcphkockkkaaDoorWTab
import Derived.Test.YtpebcphkockkkaaDoorWFour
import Derived.Test.YtpebcphkockkkaaDoorWQPut
import Derived.Test.YtpebcphkockkkaaDoorWApart
import Derived.Test.YtpebcphkockkkaaDoorWArr
import Derived.Test.YtpebcphkockkkaaDoorWZeros
import Derived.Test.YtpebcphkockkkaaDoorWFoot
import Derived.Test.YtpebcphkockkkaaDoorWKept
import Derived.Test.YtpebcphkockkkaaDoorWShare
import Derived.Test.YtpebcphkockkkaaDoorWN
import Derived.Test.YtpebcphkockkkaaDoorWFootNe
import Derived.Test.YtpebcphkockkkaaDoorWAt
import Derived.Test.YtpebcphkockkkaaDoorWEqStruct
import Derived.Test.YtpebcphkockkkaaDoorWRepsOne
import Derived.Test.YtpebcphkockkkaaDoorWInv
import Derived.Test.YtpebcphkockkkaaDoorWInvWords
import Derived.Test.YtpebcphkockkkaaDoorWGuard
import Derived.Test.YtpebcphkockkkaaDoorWNEv
import Derived.Test.YtpebcphkockkkaaDoorWMore
namespace Go.Proofs.YtpebcphkockkkaaDoor.PF
open Go.RowKit Go.Proofs.YtpebcphkockkkaaDoorW.PrintWords Go.Proofs.YtpebcphkockkkaaDoorW.PrintLast Go.Proofs.YtpebcphkockkkaaDoorW.PrintMore
attribute [local go_sem] max2_int min2_int max_two min_two max_three min_three max_four min_four   -- for this text's walks alone
open Go.Proofs.YtpebcphkockkkaaDoor.Hand
open Go.Proofs.YtpebcphkockkkaaDoor.PA
open Go.Proofs.YtpebcphkockkkaaDoor.PB
open Go.Proofs.YtpebcphkockkkaaDoor.PD
open Go.Proofs.YtpebcphkockkkaaDoor.PE
set_option linter.unusedVariables false
set_option linter.unusedSimpArgs false



def errW : Option Int → Value
  | none => .nilIface
  | some c => .iface 0 (.int .i64 c)
theorem errW_none : errW none = .nilIface := rfl
theorem errW_some (c : Int) : errW (some c) = .iface 0 (.int .i64 c) := rfl

-- the values' own types

end Go.Proofs.YtpebcphkockkkaaDoor.PF
