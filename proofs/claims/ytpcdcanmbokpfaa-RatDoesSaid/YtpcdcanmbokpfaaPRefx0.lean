-- Written by a program of this session (wip/myprint.py).
import Derived.Test.YtpcdcanmbokpfaaProg
import Derived.Below
import Derived.Deep.Draws
import Derived.Deep.AppendLies
import Derived.Maps.AppendAt
import Derived.OwnWalk
import Derived.Laws.BytesArg
import Derived.Laws.MakeOwn
import Derived.Laws.OwnMore
import Derived.Deep.OwnRows
import Derived.Tactics
import Derived.Lib.ConvBytes
import Derived.Laws.Slices
import Derived.WalkKit
import Derived.KernelRfl
import Derived.RowKit3
import Derived.Deep.LoopGhost
import Derived.Deep.QuietTactic
import Derived.BigQuiet
import Derived.WideLaws
import Derived.Deep.DeepCutAuto
import Derived.Deep.CutBlock
import Derived.Deep.RegionHeld3
import Derived.Laws.Rows
import Derived.Lib.AppendStr
import Derived.ArgAppend
import Derived.Laws.IdiomCopy
import Derived.OrdersHeld
import Derived.Laws.BitsLemmas
import Derived.RowKit
import Derived.Test.YtpcdcanmbokpfaaWWords
import Derived.Test.YtpcdcanmbokpfaaWLast
import Derived.Test.YtpcdcanmbokpfaaWTab
import Derived.Test.YtpcdcanmbokpfaaWQPut
import Derived.Test.YtpcdcanmbokpfaaWApart
import Derived.Test.YtpcdcanmbokpfaaWArr
import Derived.Test.YtpcdcanmbokpfaaWZeros
import Derived.Test.YtpcdcanmbokpfaaWFoot
import Derived.Test.YtpcdcanmbokpfaaWKept
import Derived.Test.YtpcdcanmbokpfaaWShare
import Derived.Test.YtpcdcanmbokpfaaWN
import Derived.Test.YtpcdcanmbokpfaaWEqStruct
import Derived.Test.YtpcdcanmbokpfaaWRepsOne
import Derived.Test.YtpcdcanmbokpfaaWGuard
import Derived.Test.YtpcdcanmbokpfaaWNEv
import Derived.Test.YtpcdcanmbokpfaaWMore
namespace Go.Proofs.Ytpcdcanmbokpfaa.PRef
open Go.RowKit Go.Proofs.YtpcdcanmbokpfaaW.PrintWords Go.Proofs.YtpcdcanmbokpfaaW.PrintLast Go.Proofs.YtpcdcanmbokpfaaW.PrintMore
attribute [local go_sem] max2_int min2_int max_two min_two max_three min_three max_four min_four   -- for this text's walks alone
set_option linter.unusedVariables false
set_option linter.unusedSimpArgs false



def errW : Option Int → Value
  | none => .nilIface
  | some c => .iface 0 (.int .i64 c)
theorem errW_none : errW none = .nilIface := rfl
theorem errW_some (c : Int) : errW (some c) = .iface 0 (.int .i64 c) := rfl

theorem info4 : (Try.prog.info? 4).map (fun i => (i.zero, i.size, i.bytes)) = some (some (.bool false), 1, 1) := by kernel_rfl
-- the values' own types

end Go.Proofs.Ytpcdcanmbokpfaa.PRef
