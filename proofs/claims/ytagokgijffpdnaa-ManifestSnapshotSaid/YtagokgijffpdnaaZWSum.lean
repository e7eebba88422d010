import Derived.Test.YtagokgijffpdnaaZWHalf
import Derived.Lib.ConvBytes
import Derived.Deep.QuietTactic
import Derived.Deep.CutBlock
import Derived.BigQuiet
namespace Go.Proofs.Ytagokgijffpdnaa.G
open Go.RowKit Go.Proofs.YtagokgijffpdnaaQ Go.Proofs.YtagokgijffpdnaaW.PrintWords Go.Proofs.YtagokgijffpdnaaW.PrintLast Go.Proofs.YtagokgijffpdnaaW.PrintMore
set_option linter.unusedVariables false
set_option linter.unusedSimpArgs false
theorem half_one (r : Nat) : (r / 16) ^^^ tab4 (r % 16) = cbits 4 r := (cbits4 r).symm
end Go.Proofs.Ytagokgijffpdnaa.G
