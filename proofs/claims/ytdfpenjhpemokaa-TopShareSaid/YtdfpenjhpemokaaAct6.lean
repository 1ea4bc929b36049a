/-
  The reference's Watched.
-/
import Derived.Test.YtdfpenjhpemokaaAct5
set_option linter.unusedVariables false
set_option linter.unusedSimpArgs false
namespace Go.Proofs.Ytdfpenjhpemokaa
open Go.RowKit

end Go.Proofs.Ytdfpenjhpemokaa
