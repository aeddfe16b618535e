/- Walks of the laws' comparisons of lists. -/
import Derived.Test.YtkioohhjjdlhiaaGreatPartB
set_option linter.all false
set_option linter.unusedVariables false
set_option linter.unusedSimpArgs false
namespace Go.Proofs.YtkioohhjjdlhiaaGreat
open Go.RowKit
end Go.Proofs.YtkioohhjjdlhiaaGreat
