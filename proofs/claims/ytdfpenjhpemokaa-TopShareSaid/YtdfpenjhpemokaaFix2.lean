/-
  fix.Sub, Div, Root; the reference's Div.
-/
import Derived.Test.YtdfpenjhpemokaaErr2
set_option linter.unusedVariables false
set_option linter.unusedSimpArgs false
namespace Go.Proofs.Ytdfpenjhpemokaa
open Go.RowKit

end Go.Proofs.Ytdfpenjhpemokaa
