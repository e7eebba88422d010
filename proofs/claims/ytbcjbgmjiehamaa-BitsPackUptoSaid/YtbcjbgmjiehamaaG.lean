-- Written by a driver of this session (wip/gen/drive.py), which runs the kit's print with additions of its own; not print.sh's own output.
import Derived.Test.YtbcjbgmjiehamaaG0
import Derived.Test.YtbcjbgmjiehamaaG1
import Derived.Test.YtbcjbgmjiehamaaG2
import Derived.Test.YtbcjbgmjiehamaaG3
import Derived.Test.YtbcjbgmjiehamaaG4
import Derived.Test.YtbcjbgmjiehamaaG5
namespace Go.Proofs.Ytbcjbgmjiehamaa.G
open Go.RowKit Go.Proofs.YtbcjbgmjiehamaaQ Go.Proofs.YtbcjbgmjiehamaaW.PrintWords Go.Proofs.YtbcjbgmjiehamaaW.PrintLast Go.Proofs.YtbcjbgmjiehamaaW.PrintMore
attribute [local go_sem] max2_int min2_int max_two min_two max_three min_three max_four min_four   -- for this text's walks alone
set_option linter.unusedVariables false
set_option linter.unusedSimpArgs false

end Go.Proofs.Ytbcjbgmjiehamaa.G
