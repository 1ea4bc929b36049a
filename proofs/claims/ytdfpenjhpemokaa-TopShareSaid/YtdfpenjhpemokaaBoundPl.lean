/-
  The plain law of a guard's bounds: the highest move with room for what it goes. No program in sight.
-/
import Derived.Test.YtdfpenjhpemokaaGuardPl
set_option linter.unusedVariables false
set_option linter.unusedSimpArgs false
namespace Go.Proofs.Ytdfpenjhpemokaa
open Go.RowKit

end Go.Proofs.Ytdfpenjhpemokaa
