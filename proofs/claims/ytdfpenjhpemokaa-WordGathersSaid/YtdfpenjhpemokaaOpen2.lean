/-
  A struct of one-cell fields among the arguments: each of its cells is as its field's type says.
-/
import Derived.Test.YtdfpenjhpemokaaOpen
import Derived.Test.YtdfpenjhpemokaaRow
set_option linter.unusedVariables false
set_option linter.unusedSimpArgs false
namespace Go.Proofs.Ytdfpenjhpemokaa
open Go.ChangeShapes Go.WideShapes Go.ChangeAt Go.RowKit Go.Deep

section
variable {H : Type} {enc : TypeId × Value → H} {P : Program} {w : World} {base : Nat} {spare : Nat → Bool} {held : Bool}

end
end Go.Proofs.Ytdfpenjhpemokaa
