import Derived.Test.YtlcjkpoaehmghaaZQ1
import Derived.Test.YtlcjkpoaehmghaaZWMore
namespace Go.Proofs.YtlcjkpoaehmghaaQ
open Go.RowKit Go.Proofs.YtlcjkpoaehmghaaW.PrintWords Go.Proofs.YtlcjkpoaehmghaaW.PrintMore
set_option linter.unusedVariables false
set_option linter.unusedSimpArgs false
theorem w64 {x : Int} (h0 : -9223372036854775808 ≤ x) (h1 : x < 9223372036854775808) : wrap64 x = x := by unfold wrap64; omega
end Go.Proofs.YtlcjkpoaehmghaaQ
