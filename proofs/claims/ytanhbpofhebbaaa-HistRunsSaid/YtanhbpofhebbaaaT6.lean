import Derived.Test.YtanhbpofhebbaaaT5
namespace Go.Proofs.Ytanhbpofhebbaaa
open Go.RowKit
set_option linter.unusedSimpArgs false
set_option linter.unusedVariables false

end Go.Proofs.Ytanhbpofhebbaaa
