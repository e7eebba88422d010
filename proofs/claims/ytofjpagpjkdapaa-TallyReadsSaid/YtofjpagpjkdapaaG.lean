-- Written by a driver of this session (wip/gen/drive.py), which runs the kit's print with additions of its own; not print.sh's own output.
import Derived.Test.YtofjpagpjkdapaaG0
import Derived.Test.YtofjpagpjkdapaaG1
import Derived.Test.YtofjpagpjkdapaaG2
import Derived.Test.YtofjpagpjkdapaaG3
import Derived.Test.YtofjpagpjkdapaaG4
import Derived.Test.YtofjpagpjkdapaaG5
import Derived.Test.YtofjpagpjkdapaaG6
namespace Go.Proofs.Ytofjpagpjkdapaa.G
open Go.RowKit Go.Proofs.YtofjpagpjkdapaaQ Go.Proofs.YtofjpagpjkdapaaW.PrintWords Go.Proofs.YtofjpagpjkdapaaW.PrintLast Go.Proofs.YtofjpagpjkdapaaW.PrintMore
attribute [local go_sem] max2_int min2_int max_two min_two max_three min_three max_four min_four   -- for this text's walks alone
set_option linter.unusedVariables false
set_option linter.unusedSimpArgs false

end Go.Proofs.Ytofjpagpjkdapaa.G
