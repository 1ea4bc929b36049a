/-
  Shares: handlers of R.SpreadMay, R.Spread, share.Spread.
-/
import Derived.Test.YtdfpenjhpemokaaShareR
import Derived.Test.YtdfpenjhpemokaaShareT
set_option linter.unusedVariables false
set_option linter.unusedSimpArgs false
namespace Go.Proofs.Ytdfpenjhpemokaa.Sx
open Go.RowKit
section
variable {G : Nat → GD} {ρ : Env}
end
end Go.Proofs.Ytdfpenjhpemokaa.Sx
