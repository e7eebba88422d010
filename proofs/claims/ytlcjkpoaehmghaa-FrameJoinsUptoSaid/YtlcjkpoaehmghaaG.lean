-- Written by a driver of this session (wip/gen/drive.py), which runs the kit's print with additions of its own; not print.sh's own output.
import Derived.Test.YtlcjkpoaehmghaaG0
import Derived.Test.YtlcjkpoaehmghaaG1
import Derived.Test.YtlcjkpoaehmghaaG2
import Derived.Test.YtlcjkpoaehmghaaG3
import Derived.Test.YtlcjkpoaehmghaaG4
import Derived.Test.YtlcjkpoaehmghaaG5
namespace Go.Proofs.Ytlcjkpoaehmghaa.G
open Go.RowKit Go.Proofs.YtlcjkpoaehmghaaQ Go.Proofs.YtlcjkpoaehmghaaW.PrintWords Go.Proofs.YtlcjkpoaehmghaaW.PrintLast Go.Proofs.YtlcjkpoaehmghaaW.PrintMore
attribute [local go_sem] max2_int min2_int max_two min_two max_three min_three max_four min_four   -- for this text's walks alone
set_option linter.unusedVariables false
set_option linter.unusedSimpArgs false

end Go.Proofs.Ytlcjkpoaehmghaa.G
