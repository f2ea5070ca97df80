-- written for this claim by mp.py (this repo), with the kit's print; checked by the kernel alone
import Derived.Test.YtabljieejnhefaaDoorProg
import Derived.Below
import Derived.Deep.Draws
import Derived.Deep.AppendLies
import Derived.Maps.AppendAt
import Derived.OwnWalk
import Derived.Laws.BytesArg
import Derived.Laws.MakeOwn
import Derived.Laws.OwnMore
import Derived.Deep.OwnRows
import Derived.Tactics
import Derived.Lib.ConvBytes
import Derived.Laws.Slices
import Derived.WalkKit
import Derived.KernelRfl
import Derived.RowKit3
import Derived.Deep.LoopGhost
import Derived.Deep.QuietTactic
import Derived.BigQuiet
import Derived.WideLaws
import Derived.Deep.DeepCutAuto
import Derived.Deep.CutBlock
import Derived.Deep.RegionHeld3
import Derived.Laws.Rows
import Derived.Lib.AppendStr
import Derived.ArgAppend
import Derived.Laws.IdiomCopy
import Derived.OrdersHeld
import Derived.Laws.BitsLemmas
import Derived.RowKit
import Derived.Test.YtabljieejnhefaaDoorHand
import Derived.Test.YtabljieejnhefaaDoorPBx2
import Derived.Test.YtabljieejnhefaaDoorCellF
import Derived.Test.YtabljieejnhefaaDoorWWords
import Derived.Test.YtabljieejnhefaaDoorWLast
import Derived.Test.YtabljieejnhefaaDoorWTab
import Derived.Test.YtabljieejnhefaaDoorWFour
import Derived.Test.YtabljieejnhefaaDoorWQPut
import Derived.Test.YtabljieejnhefaaDoorWApart
import Derived.Test.YtabljieejnhefaaDoorWArr
import Derived.Test.YtabljieejnhefaaDoorWZeros
import Derived.Test.YtabljieejnhefaaDoorWFoot
import Derived.Test.YtabljieejnhefaaDoorWKept
import Derived.Test.YtabljieejnhefaaDoorWShare
import Derived.Test.YtabljieejnhefaaDoorWN
import Derived.Test.YtabljieejnhefaaDoorWFootNe
import Derived.Test.YtabljieejnhefaaDoorWAt
import Derived.Test.YtabljieejnhefaaDoorWEqStruct
import Derived.Test.YtabljieejnhefaaDoorWRepsOne
import Derived.Test.YtabljieejnhefaaDoorWInv
import Derived.Test.YtabljieejnhefaaDoorWInvWords
import Derived.Test.YtabljieejnhefaaDoorWGuard
import Derived.Test.YtabljieejnhefaaDoorWNEv
import Derived.Test.YtabljieejnhefaaDoorWMore
namespace Go.Proofs.YtabljieejnhefaaDoor.PC
open Go.RowKit Go.Proofs.YtabljieejnhefaaDoorW.PrintWords Go.Proofs.YtabljieejnhefaaDoorW.PrintLast Go.Proofs.YtabljieejnhefaaDoorW.PrintMore
attribute [local go_sem] max2_int min2_int max_two min_two max_three min_three max_four min_four   -- for this text's walks alone
open Go.Proofs.YtabljieejnhefaaDoor.Hand
open Go.Proofs.YtabljieejnhefaaDoor.PB
set_option linter.unusedVariables false
set_option linter.unusedSimpArgs false



def errW : Option Int → Value
  | none => .nilIface
  | some c => .iface 0 (.int .i64 c)
theorem errW_none : errW none = .nilIface := rfl
theorem errW_some (c : Int) : errW (some c) = .iface 0 (.int .i64 c) := rfl

-- the values' own types

end Go.Proofs.YtabljieejnhefaaDoor.PC
