import Derived.Test.YtlcjkpoaehmghaaProg
import Derived.Test.YtlcjkpoaehmghaaZQ1
import Derived.Test.YtlcjkpoaehmghaaZQA
import Derived.Test.YtlcjkpoaehmghaaZWSum
import Derived.Test.YtlcjkpoaehmghaaZQF2
import Derived.Below
import Derived.Deep.Draws
import Derived.Deep.AppendLies
import Derived.Maps.AppendAt
import Derived.OwnWalk
import Derived.Laws.BytesArg
import Derived.Laws.MakeOwn
import Derived.Laws.OwnMore
import Derived.Deep.OwnRows
import Derived.Tactics
import Derived.Lib.ConvBytes
import Derived.Laws.Slices
import Derived.WalkKit
import Derived.KernelRfl
import Derived.RowKit3
import Derived.Deep.LoopGhost
import Derived.Deep.QuietTactic
import Derived.BigQuiet
import Derived.WideLaws
import Derived.Deep.DeepCutAuto
import Derived.Deep.CutBlock
import Derived.Deep.RegionHeld3
import Derived.Laws.Rows
import Derived.Lib.AppendStr
import Derived.ArgAppend
import Derived.Laws.IdiomCopy
import Derived.OrdersHeld
import Derived.Laws.BitsLemmas
import Derived.RowKit
import Derived.Test.YtlcjkpoaehmghaaZWWords
import Derived.Test.YtlcjkpoaehmghaaZWLast
import Derived.Test.YtlcjkpoaehmghaaZWTab
import Derived.Test.YtlcjkpoaehmghaaZWFour
import Derived.Test.YtlcjkpoaehmghaaZWQPut
import Derived.Test.YtlcjkpoaehmghaaZWApart
import Derived.Test.YtlcjkpoaehmghaaZWArr
import Derived.Test.YtlcjkpoaehmghaaZWZeros
import Derived.Test.YtlcjkpoaehmghaaZWFoot
import Derived.Test.YtlcjkpoaehmghaaZWKept
import Derived.Test.YtlcjkpoaehmghaaZWShare
import Derived.Test.YtlcjkpoaehmghaaZWN
import Derived.Test.YtlcjkpoaehmghaaZWFootNe
import Derived.Test.YtlcjkpoaehmghaaZWAt
import Derived.Test.YtlcjkpoaehmghaaZWEqStruct
import Derived.Test.YtlcjkpoaehmghaaZWRepsOne
import Derived.Test.YtlcjkpoaehmghaaZWInv
import Derived.Test.YtlcjkpoaehmghaaZWInvWords
import Derived.Test.YtlcjkpoaehmghaaZWGuard
import Derived.Test.YtlcjkpoaehmghaaZWNEv
import Derived.Test.YtlcjkpoaehmghaaZWMore
namespace Go.Proofs.Ytlcjkpoaehmghaa.G
open Go.RowKit Go.Proofs.YtlcjkpoaehmghaaQ Go.Proofs.YtlcjkpoaehmghaaW.PrintWords Go.Proofs.YtlcjkpoaehmghaaW.PrintLast Go.Proofs.YtlcjkpoaehmghaaW.PrintMore
attribute [local go_sem] max2_int min2_int max_two min_two max_three min_three max_four min_four   -- for this text's walks alone
set_option linter.unusedVariables false
set_option linter.unusedSimpArgs false
def errW : Option Int → Value
  | none => .nilIface
  | some c => .iface 0 (.int .i64 c)
theorem errW_none : errW none = .nilIface := rfl
theorem errW_some (c : Int) : errW (some c) = .iface 0 (.int .i64 c) := rfl
theorem info3 : (Try.prog.info? 3).map (fun i => (i.zero, i.size, i.bytes)) = some (some (.int .i64 0), 1, 8) := by kernel_rfl
theorem info5 : (Try.prog.info? 5).map (fun i => (i.zero, i.size, i.bytes)) = some (some (.int .u8 0), 1, 1) := by kernel_rfl
theorem info9 : (Try.prog.info? 9).map (fun i => (i.zero, i.size, i.bytes)) = some (some (.string ⟨#[]⟩), 1, 16) := by kernel_rfl
end Go.Proofs.Ytlcjkpoaehmghaa.G
