/-
  What values are, that the executor names: numbers, structs, errors.
-/
import Derived.Test.YtdfpenjhpemokaaSxStd
import Derived.Test.YtdfpenjhpemokaaErr
set_option linter.unusedVariables false
set_option linter.unusedSimpArgs false
namespace Go.Proofs.Ytdfpenjhpemokaa.Sx
open Go.RowKit
theorem den_agg (ρ : Env) (b : Bd) (l : List SV) : (SV.agg l).den ρ b = .agg (SV.denL ρ b l).toArray := by simp only [SV.den]
theorem den_int (ρ : Env) (b : Bd) (k : IntKind) (r : R) : (SV.int k r).den ρ b = .int k (r.e.i ρ) := by simp only [SV.den]
end Go.Proofs.Ytdfpenjhpemokaa.Sx
