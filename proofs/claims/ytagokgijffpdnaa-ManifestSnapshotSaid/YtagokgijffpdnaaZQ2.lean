import Derived.Test.YtagokgijffpdnaaZQ1
import Derived.Test.YtagokgijffpdnaaZWMore
namespace Go.Proofs.YtagokgijffpdnaaQ
open Go.RowKit Go.Proofs.YtagokgijffpdnaaW.PrintWords Go.Proofs.YtagokgijffpdnaaW.PrintMore
set_option linter.unusedVariables false
set_option linter.unusedSimpArgs false
theorem w64 {x : Int} (h0 : -9223372036854775808 ≤ x) (h1 : x < 9223372036854775808) : wrap64 x = x := by unfold wrap64; omega
end Go.Proofs.YtagokgijffpdnaaQ
