/-
  guard.Bounds, guard.Clamp, the reference's Bounds.
-/
import Derived.Test.YtdfpenjhpemokaaBound
set_option linter.unusedVariables false
set_option linter.unusedSimpArgs false
namespace Go.Proofs.Ytdfpenjhpemokaa
open Go.RowKit

end Go.Proofs.Ytdfpenjhpemokaa
