-- Written by a driver of this session (wip/gen/drive.py), which runs the kit's print with additions of its own; not print.sh's own output.
import Derived.Test.YtbcjbgmjiehamaaProg
import Derived.Test.YtbcjbgmjiehamaaQ1
import Derived.Test.YtbcjbgmjiehamaaQA
import Derived.Test.YtbcjbgmjiehamaaWGet
import Derived.Test.YtbcjbgmjiehamaaQL
import Derived.Test.YtbcjbgmjiehamaaQ2
import Derived.Below
import Derived.Deep.Draws
import Derived.Deep.AppendLies
import Derived.Maps.AppendAt
import Derived.OwnWalk
import Derived.Laws.BytesArg
import Derived.Laws.MakeOwn
import Derived.Laws.OwnMore
import Derived.Deep.OwnRows
import Derived.Tactics
import Derived.Lib.ConvBytes
import Derived.Laws.Slices
import Derived.WalkKit
import Derived.KernelRfl
import Derived.RowKit3
import Derived.Deep.LoopGhost
import Derived.Deep.QuietTactic
import Derived.BigQuiet
import Derived.WideLaws
import Derived.Deep.DeepCutAuto
import Derived.Deep.CutBlock
import Derived.Deep.RegionHeld3
import Derived.Laws.Rows
import Derived.Lib.AppendStr
import Derived.ArgAppend
import Derived.Laws.IdiomCopy
import Derived.OrdersHeld
import Derived.Laws.BitsLemmas
import Derived.RowKit
import Derived.Test.YtbcjbgmjiehamaaWWords
import Derived.Test.YtbcjbgmjiehamaaWLast
import Derived.Test.YtbcjbgmjiehamaaWTab
import Derived.Test.YtbcjbgmjiehamaaWFour
import Derived.Test.YtbcjbgmjiehamaaWQPut
import Derived.Test.YtbcjbgmjiehamaaWApart
import Derived.Test.YtbcjbgmjiehamaaWArr
import Derived.Test.YtbcjbgmjiehamaaWZeros
import Derived.Test.YtbcjbgmjiehamaaWFoot
import Derived.Test.YtbcjbgmjiehamaaWKept
import Derived.Test.YtbcjbgmjiehamaaWShare
import Derived.Test.YtbcjbgmjiehamaaWN
import Derived.Test.YtbcjbgmjiehamaaWFootNe
import Derived.Test.YtbcjbgmjiehamaaWAt
import Derived.Test.YtbcjbgmjiehamaaWEqStruct
import Derived.Test.YtbcjbgmjiehamaaWRepsOne
import Derived.Test.YtbcjbgmjiehamaaWInv
import Derived.Test.YtbcjbgmjiehamaaWInvWords
import Derived.Test.YtbcjbgmjiehamaaWGuard
import Derived.Test.YtbcjbgmjiehamaaWNEv
import Derived.Test.YtbcjbgmjiehamaaWMore
namespace Go.Proofs.Ytbcjbgmjiehamaa.G
open Go.RowKit Go.Proofs.YtbcjbgmjiehamaaQ Go.Proofs.YtbcjbgmjiehamaaW.PrintWords Go.Proofs.YtbcjbgmjiehamaaW.PrintLast Go.Proofs.YtbcjbgmjiehamaaW.PrintMore
attribute [local go_sem] max2_int min2_int max_two min_two max_three min_three max_four min_four   -- for this text's walks alone
set_option linter.unusedVariables false
set_option linter.unusedSimpArgs false



def errW : Option Int → Value
  | none => .nilIface
  | some c => .iface 0 (.int .i64 c)
theorem errW_none : errW none = .nilIface := rfl
theorem errW_some (c : Int) : errW (some c) = .iface 0 (.int .i64 c) := rfl

theorem info4 : (Try.prog.info? 4).map (fun i => (i.zero, i.size, i.bytes)) = some (some (.bool false), 1, 1) := by kernel_rfl
theorem info5 : (Try.prog.info? 5).map (fun i => (i.zero, i.size, i.bytes)) = some (some (.int .u8 0), 1, 1) := by kernel_rfl
theorem info42 : (Try.prog.info? 42).map (fun i => (i.zero, i.size, i.bytes)) = some (some (.int .u64 0), 1, 8) := by kernel_rfl
-- the values' own types

end Go.Proofs.Ytbcjbgmjiehamaa.G
