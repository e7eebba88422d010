import Derived.Test.YtlcjkpoaehmghaaZG0
import Derived.Test.YtlcjkpoaehmghaaZG1
import Derived.Test.YtlcjkpoaehmghaaZG2
import Derived.Test.YtlcjkpoaehmghaaZG3
import Derived.Test.YtlcjkpoaehmghaaZG4
import Derived.Test.YtlcjkpoaehmghaaZG5
namespace Go.Proofs.Ytlcjkpoaehmghaa.G
open Go.RowKit Go.Proofs.YtlcjkpoaehmghaaQ Go.Proofs.YtlcjkpoaehmghaaW.PrintWords Go.Proofs.YtlcjkpoaehmghaaW.PrintLast Go.Proofs.YtlcjkpoaehmghaaW.PrintMore
attribute [local go_sem] max2_int min2_int max_two min_two max_three min_three max_four min_four   -- for this text's walks alone
set_option linter.unusedVariables false
set_option linter.unusedSimpArgs false
end Go.Proofs.Ytlcjkpoaehmghaa.G
