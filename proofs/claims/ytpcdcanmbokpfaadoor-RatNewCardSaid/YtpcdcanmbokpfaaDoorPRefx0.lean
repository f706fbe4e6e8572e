-- Written by a program of this session (wip/myprint.py).
import Derived.Test.YtpcdcanmbokpfaaDoorProg
import Derived.Below
import Derived.Deep.Draws
import Derived.Deep.AppendLies
import Derived.Maps.AppendAt
import Derived.OwnWalk
import Derived.Laws.BytesArg
import Derived.Laws.MakeOwn
import Derived.Laws.OwnMore
import Derived.Deep.OwnRows
import Derived.Tactics
import Derived.Lib.ConvBytes
import Derived.Laws.Slices
import Derived.WalkKit
import Derived.KernelRfl
import Derived.RowKit3
import Derived.Deep.LoopGhost
import Derived.Deep.QuietTactic
import Derived.BigQuiet
import Derived.WideLaws
import Derived.Deep.DeepCutAuto
import Derived.Deep.CutBlock
import Derived.Deep.RegionHeld3
import Derived.Laws.Rows
import Derived.Lib.AppendStr
import Derived.ArgAppend
import Derived.Laws.IdiomCopy
import Derived.OrdersHeld
import Derived.Laws.BitsLemmas
import Derived.RowKit
import Derived.Test.YtpcdcanmbokpfaaDoorWWords
import Derived.Test.YtpcdcanmbokpfaaDoorWRepsOne
import Derived.Test.YtpcdcanmbokpfaaDoorWLast
import Derived.Test.YtpcdcanmbokpfaaDoorWTab
import Derived.Test.YtpcdcanmbokpfaaDoorWQPut
import Derived.Test.YtpcdcanmbokpfaaDoorWApart
import Derived.Test.YtpcdcanmbokpfaaDoorWArr
import Derived.Test.YtpcdcanmbokpfaaDoorWZeros
import Derived.Test.YtpcdcanmbokpfaaDoorWFoot
import Derived.Test.YtpcdcanmbokpfaaDoorWKept
import Derived.Test.YtpcdcanmbokpfaaDoorWShare
import Derived.Test.YtpcdcanmbokpfaaDoorWN
import Derived.Test.YtpcdcanmbokpfaaDoorWEqStruct
import Derived.Test.YtpcdcanmbokpfaaDoorWGuard
import Derived.Test.YtpcdcanmbokpfaaDoorWNEv
import Derived.Test.YtpcdcanmbokpfaaDoorWMore
namespace Go.Proofs.YtpcdcanmbokpfaaDoor.PRef
open Go.RowKit Go.Proofs.YtpcdcanmbokpfaaDoorW.PrintWords Go.Proofs.YtpcdcanmbokpfaaDoorW.PrintLast Go.Proofs.YtpcdcanmbokpfaaDoorW.PrintMore
attribute [local go_sem] max2_int min2_int max_two min_two max_three min_three max_four min_four   -- for this text's walks alone
set_option linter.unusedVariables false
set_option linter.unusedSimpArgs false



def errW : Option Int → Value
  | none => .nilIface
  | some c => .iface 0 (.int .i64 c)
theorem errW_none : errW none = .nilIface := rfl
theorem errW_some (c : Int) : errW (some c) = .iface 0 (.int .i64 c) := rfl

theorem info4 : (Tryd.prog.info? 4).map (fun i => (i.zero, i.size, i.bytes)) = some (some (.bool false), 1, 1) := by kernel_rfl
-- the values' own types

end Go.Proofs.YtpcdcanmbokpfaaDoor.PRef
