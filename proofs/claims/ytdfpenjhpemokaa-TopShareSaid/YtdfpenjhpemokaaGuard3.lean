/-
  guard.Check.
-/
import Derived.Test.YtdfpenjhpemokaaGuard2
import Derived.BigGuardPart
set_option linter.unusedVariables false
set_option linter.unusedSimpArgs false

namespace Go.Proofs.Ytdfpenjhpemokaa
open Go.RowKit

end Go.Proofs.Ytdfpenjhpemokaa
