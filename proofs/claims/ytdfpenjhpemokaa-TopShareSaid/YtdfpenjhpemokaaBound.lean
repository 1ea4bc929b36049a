/-
  The guard's bounds walked: highest, Bounds, Clamp; the reference's highest and Bounds.
-/
import Derived.Test.YtdfpenjhpemokaaBoundPl
import Derived.Test.YtdfpenjhpemokaaGuard5
import Derived.Test.YtdfpenjhpemokaaKit
import Derived.Deep.DeepCutAuto
set_option linter.unusedVariables false
set_option linter.unusedSimpArgs false
namespace Go.Proofs.Ytdfpenjhpemokaa
open Go.RowKit

end Go.Proofs.Ytdfpenjhpemokaa
