/-
  Lines: contracts of functions of one list and a number, of lines.
-/
import Derived.Test.YtdfpenjhpemokaaSxDen
import Derived.Test.YtdfpenjhpemokaaLineB
import Derived.Test.YtdfpenjhpemokaaNum
set_option linter.unusedVariables false
set_option linter.unusedSimpArgs false
namespace Go.Proofs.Ytdfpenjhpemokaa.Sx
open Go.RowKit

section
variable {G : Nat → GD} {ρ : Env}
end
section
variable {G : Nat → GD} {ρ : Env} (h : Std lnF lnB G ρ) {w0 : World} (hG : ∀ k, (G k).ok w0) (hks : ∀ k, (G k).ks = [true])
include h hG hks
omit hG hks in
end
end Go.Proofs.Ytdfpenjhpemokaa.Sx
