-- Written by a driver of this session (wip/gen/drive.py), which runs the kit's print with additions of its own; not print.sh's own output.
import Derived.Test.YtlcjkpoaehmghaaProg
import Derived.Test.YtlcjkpoaehmghaaQ1
import Derived.Test.YtlcjkpoaehmghaaQA
import Derived.Test.YtlcjkpoaehmghaaWSum
import Derived.Test.YtlcjkpoaehmghaaQF2
import Derived.Below
import Derived.Deep.Draws
import Derived.Deep.AppendLies
import Derived.Maps.AppendAt
import Derived.OwnWalk
import Derived.Laws.BytesArg
import Derived.Laws.MakeOwn
import Derived.Laws.OwnMore
import Derived.Deep.OwnRows
import Derived.Tactics
import Derived.Lib.ConvBytes
import Derived.Laws.Slices
import Derived.WalkKit
import Derived.KernelRfl
import Derived.RowKit3
import Derived.Deep.LoopGhost
import Derived.Deep.QuietTactic
import Derived.BigQuiet
import Derived.WideLaws
import Derived.Deep.DeepCutAuto
import Derived.Deep.CutBlock
import Derived.Deep.RegionHeld3
import Derived.Laws.Rows
import Derived.Lib.AppendStr
import Derived.ArgAppend
import Derived.Laws.IdiomCopy
import Derived.OrdersHeld
import Derived.Laws.BitsLemmas
import Derived.RowKit
import Derived.Test.YtlcjkpoaehmghaaWWords
import Derived.Test.YtlcjkpoaehmghaaWLast
import Derived.Test.YtlcjkpoaehmghaaWTab
import Derived.Test.YtlcjkpoaehmghaaWFour
import Derived.Test.YtlcjkpoaehmghaaWQPut
import Derived.Test.YtlcjkpoaehmghaaWApart
import Derived.Test.YtlcjkpoaehmghaaWArr
import Derived.Test.YtlcjkpoaehmghaaWZeros
import Derived.Test.YtlcjkpoaehmghaaWFoot
import Derived.Test.YtlcjkpoaehmghaaWKept
import Derived.Test.YtlcjkpoaehmghaaWShare
import Derived.Test.YtlcjkpoaehmghaaWN
import Derived.Test.YtlcjkpoaehmghaaWFootNe
import Derived.Test.YtlcjkpoaehmghaaWAt
import Derived.Test.YtlcjkpoaehmghaaWEqStruct
import Derived.Test.YtlcjkpoaehmghaaWRepsOne
import Derived.Test.YtlcjkpoaehmghaaWInv
import Derived.Test.YtlcjkpoaehmghaaWInvWords
import Derived.Test.YtlcjkpoaehmghaaWGuard
import Derived.Test.YtlcjkpoaehmghaaWNEv
import Derived.Test.YtlcjkpoaehmghaaWMore
namespace Go.Proofs.Ytlcjkpoaehmghaa.G
open Go.RowKit Go.Proofs.YtlcjkpoaehmghaaQ Go.Proofs.YtlcjkpoaehmghaaW.PrintWords Go.Proofs.YtlcjkpoaehmghaaW.PrintLast Go.Proofs.YtlcjkpoaehmghaaW.PrintMore
attribute [local go_sem] max2_int min2_int max_two min_two max_three min_three max_four min_four   -- for this text's walks alone
set_option linter.unusedVariables false
set_option linter.unusedSimpArgs false



def errW : Option Int → Value
  | none => .nilIface
  | some c => .iface 0 (.int .i64 c)
theorem errW_none : errW none = .nilIface := rfl
theorem errW_some (c : Int) : errW (some c) = .iface 0 (.int .i64 c) := rfl

theorem info3 : (Try.prog.info? 3).map (fun i => (i.zero, i.size, i.bytes)) = some (some (.int .i64 0), 1, 8) := by kernel_rfl
theorem info5 : (Try.prog.info? 5).map (fun i => (i.zero, i.size, i.bytes)) = some (some (.int .u8 0), 1, 1) := by kernel_rfl
theorem info9 : (Try.prog.info? 9).map (fun i => (i.zero, i.size, i.bytes)) = some (some (.string ⟨#[]⟩), 1, 16) := by kernel_rfl
-- the values' own types

end Go.Proofs.Ytlcjkpoaehmghaa.G
