/-
  The reference's GuardMay whole; the guard's asked and Brake.
-/
import Derived.Test.YtdfpenjhpemokaaGuard3
import Derived.Test.YtdfpenjhpemokaaGuard4
set_option linter.unusedVariables false
set_option linter.unusedSimpArgs false
namespace Go.Proofs.Ytdfpenjhpemokaa
open Go.RowKit

end Go.Proofs.Ytdfpenjhpemokaa
