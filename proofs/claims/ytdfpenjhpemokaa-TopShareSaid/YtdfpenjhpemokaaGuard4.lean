/-
  The reference's GuardMay, where the numbers are within their bounds; the guard's asked and Brake.
-/
import Derived.Test.YtdfpenjhpemokaaGuard2
set_option linter.unusedVariables false
set_option linter.unusedSimpArgs false
namespace Go.Proofs.Ytdfpenjhpemokaa
open Go.RowKit

end Go.Proofs.Ytdfpenjhpemokaa
