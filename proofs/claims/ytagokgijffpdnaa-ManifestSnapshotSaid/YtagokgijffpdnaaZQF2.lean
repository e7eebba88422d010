import Derived.Test.YtagokgijffpdnaaZQF
namespace Go.Proofs.YtagokgijffpdnaaQ
open Go.Proofs.YtagokgijffpdnaaW.PrintWords
set_option linter.unusedVariables false
set_option linter.unusedSimpArgs false
theorem frI_nil : frI [] = .part := rfl
end Go.Proofs.YtagokgijffpdnaaQ
