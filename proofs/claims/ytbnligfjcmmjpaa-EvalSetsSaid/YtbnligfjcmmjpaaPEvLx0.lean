-- Written by a program of this session (wip/myprint.py).
import Derived.Test.YtbnligfjcmmjpaaProg
import Derived.Below
import Derived.Deep.Draws
import Derived.Deep.AppendLies
import Derived.Maps.AppendAt
import Derived.OwnWalk
import Derived.Laws.BytesArg
import Derived.Laws.MakeOwn
import Derived.Laws.OwnMore
import Derived.Deep.OwnRows
import Derived.Tactics
import Derived.Lib.ConvBytes
import Derived.Laws.Slices
import Derived.WalkKit
import Derived.KernelRfl
import Derived.RowKit3
import Derived.Deep.LoopGhost
import Derived.Deep.QuietTactic
import Derived.BigQuiet
import Derived.WideLaws
import Derived.Deep.DeepCutAuto
import Derived.Deep.CutBlock
import Derived.Deep.RegionHeld3
import Derived.Laws.Rows
import Derived.Lib.AppendStr
import Derived.ArgAppend
import Derived.Laws.IdiomCopy
import Derived.OrdersHeld
import Derived.Laws.BitsLemmas
import Derived.RowKit
import Derived.Test.YtbnligfjcmmjpaaWWords
import Derived.Test.YtbnligfjcmmjpaaWLast
import Derived.Test.YtbnligfjcmmjpaaWTab
import Derived.Test.YtbnligfjcmmjpaaWFour
import Derived.Test.YtbnligfjcmmjpaaWQPut
import Derived.Test.YtbnligfjcmmjpaaWApart
import Derived.Test.YtbnligfjcmmjpaaWArr
import Derived.Test.YtbnligfjcmmjpaaWZeros
import Derived.Test.YtbnligfjcmmjpaaWFoot
import Derived.Test.YtbnligfjcmmjpaaWKept
import Derived.Test.YtbnligfjcmmjpaaWShare
import Derived.Test.YtbnligfjcmmjpaaWN
import Derived.Test.YtbnligfjcmmjpaaWFootNe
import Derived.Test.YtbnligfjcmmjpaaWAt
import Derived.Test.YtbnligfjcmmjpaaWEqStruct
import Derived.Test.YtbnligfjcmmjpaaWRepsOne
import Derived.Test.YtbnligfjcmmjpaaWInv
import Derived.Test.YtbnligfjcmmjpaaWInvWords
import Derived.Test.YtbnligfjcmmjpaaWGuard
import Derived.Test.YtbnligfjcmmjpaaWNEv
import Derived.Test.YtbnligfjcmmjpaaWMore
namespace Go.Proofs.Ytbnligfjcmmjpaa.PEvL
open Go.RowKit Go.Proofs.YtbnligfjcmmjpaaW.PrintWords Go.Proofs.YtbnligfjcmmjpaaW.PrintLast Go.Proofs.YtbnligfjcmmjpaaW.PrintMore
attribute [local go_sem] max2_int min2_int max_two min_two max_three min_three max_four min_four   -- for this text's walks alone
set_option linter.unusedVariables false
set_option linter.unusedSimpArgs false



def errW : Option Int → Value
  | none => .nilIface
  | some c => .iface 0 (.int .i64 c)
theorem errW_none : errW none = .nilIface := rfl
theorem errW_some (c : Int) : errW (some c) = .iface 0 (.int .i64 c) := rfl

-- the values' own types

end Go.Proofs.Ytbnligfjcmmjpaa.PEvL
