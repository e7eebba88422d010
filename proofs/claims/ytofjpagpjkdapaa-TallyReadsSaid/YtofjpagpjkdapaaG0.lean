-- Written by a driver of this session (wip/gen/drive.py), which runs the kit's print with additions of its own; not print.sh's own output.
import Derived.Test.YtofjpagpjkdapaaProg
import Derived.Test.YtofjpagpjkdapaaQ1
import Derived.Test.YtofjpagpjkdapaaQA
import Derived.Below
import Derived.Deep.Draws
import Derived.Deep.AppendLies
import Derived.Maps.AppendAt
import Derived.OwnWalk
import Derived.Laws.BytesArg
import Derived.Laws.MakeOwn
import Derived.Laws.OwnMore
import Derived.Deep.OwnRows
import Derived.Tactics
import Derived.Lib.ConvBytes
import Derived.Laws.Slices
import Derived.WalkKit
import Derived.KernelRfl
import Derived.RowKit3
import Derived.Deep.LoopGhost
import Derived.Deep.QuietTactic
import Derived.BigQuiet
import Derived.WideLaws
import Derived.Deep.DeepCutAuto
import Derived.Deep.CutBlock
import Derived.Deep.RegionHeld3
import Derived.Laws.Rows
import Derived.Lib.AppendStr
import Derived.ArgAppend
import Derived.Laws.IdiomCopy
import Derived.OrdersHeld
import Derived.Laws.BitsLemmas
import Derived.RowKit
import Derived.Test.YtofjpagpjkdapaaWWords
import Derived.Test.YtofjpagpjkdapaaWLast
import Derived.Test.YtofjpagpjkdapaaWTab
import Derived.Test.YtofjpagpjkdapaaWFour
import Derived.Test.YtofjpagpjkdapaaWQPut
import Derived.Test.YtofjpagpjkdapaaWApart
import Derived.Test.YtofjpagpjkdapaaWArr
import Derived.Test.YtofjpagpjkdapaaWZeros
import Derived.Test.YtofjpagpjkdapaaWFoot
import Derived.Test.YtofjpagpjkdapaaWKept
import Derived.Test.YtofjpagpjkdapaaWShare
import Derived.Test.YtofjpagpjkdapaaWN
import Derived.Test.YtofjpagpjkdapaaWFootNe
import Derived.Test.YtofjpagpjkdapaaWAt
import Derived.Test.YtofjpagpjkdapaaWEqStruct
import Derived.Test.YtofjpagpjkdapaaWRepsOne
import Derived.Test.YtofjpagpjkdapaaWInv
import Derived.Test.YtofjpagpjkdapaaWInvWords
import Derived.Test.YtofjpagpjkdapaaWGuard
import Derived.Test.YtofjpagpjkdapaaWNEv
import Derived.Test.YtofjpagpjkdapaaWMore
namespace Go.Proofs.Ytofjpagpjkdapaa.G
open Go.RowKit Go.Proofs.YtofjpagpjkdapaaQ Go.Proofs.YtofjpagpjkdapaaW.PrintWords Go.Proofs.YtofjpagpjkdapaaW.PrintLast Go.Proofs.YtofjpagpjkdapaaW.PrintMore
attribute [local go_sem] max2_int min2_int max_two min_two max_three min_three max_four min_four   -- for this text's walks alone
set_option linter.unusedVariables false
set_option linter.unusedSimpArgs false



def errW : Option Int → Value
  | none => .nilIface
  | some c => .iface 0 (.int .i64 c)
theorem errW_none : errW none = .nilIface := rfl
theorem errW_some (c : Int) : errW (some c) = .iface 0 (.int .i64 c) := rfl

theorem info5 : (Try.prog.info? 5).map (fun i => (i.zero, i.size, i.bytes)) = some (some (.int .u8 0), 1, 1) := by kernel_rfl
-- the values' own types

end Go.Proofs.Ytofjpagpjkdapaa.G
