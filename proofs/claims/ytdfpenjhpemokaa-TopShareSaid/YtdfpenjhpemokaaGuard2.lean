/-
  guard.Check, where its numbers are within their bounds.
-/
import Derived.Test.YtdfpenjhpemokaaGuard
import Derived.Handy
import Derived.Deep.RegionHeld3
set_option linter.unusedVariables false
set_option linter.unusedSimpArgs false
namespace Go.Proofs.Ytdfpenjhpemokaa
open Go.RowKit

end Go.Proofs.Ytdfpenjhpemokaa
