/-
  What values are, that the executor names: numbers, structs, errors.
-/
import Derived.Test.YtdfpenjhpemokaaSxStd
import Derived.Test.YtdfpenjhpemokaaErr
set_option linter.unusedVariables false
set_option linter.unusedSimpArgs false
namespace Go.Proofs.Ytdfpenjhpemokaa.Sx
open Go.RowKit
theorem err_mk (ρ : Env) (h : ρ.et = 23) (r : R) (b : Bd) : (SV.err r).den ρ b = errV (r.e.i ρ) := by
  simp only [SV.den, h]
  rfl
end Go.Proofs.Ytdfpenjhpemokaa.Sx
