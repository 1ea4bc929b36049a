/-
  The law ShareSays walked.
-/
import Derived.Test.YtdfpenjhpemokaaShareSaysRun
import Derived.Test.YtdfpenjhpemokaaRow
import Derived.Test.YtdfpenjhpemokaaFrame
import Derived.Test.YtdfpenjhpemokaaOpen2
set_option linter.unusedVariables false
set_option linter.unusedSimpArgs false
namespace Go.Proofs.Ytdfpenjhpemokaa.Sx
open Go.RowKit
end Go.Proofs.Ytdfpenjhpemokaa.Sx
namespace Go.Proofs.Ytdfpenjhpemokaa
end Go.Proofs.Ytdfpenjhpemokaa
