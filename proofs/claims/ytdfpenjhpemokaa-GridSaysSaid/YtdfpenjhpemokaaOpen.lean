/-
  Slices among the arguments, opened: what their cells hold.
-/
import Derived.Test.YtdfpenjhpemokaaFrame
import Derived.Deep.Slices
import Derived.Deep.Fields
set_option linter.unusedVariables false
set_option linter.unusedSimpArgs false
namespace Go.Proofs.Ytdfpenjhpemokaa
open Go.ChangeShapes Go.WideShapes Go.ChangeAt Go.RowKit Go.Deep

section
variable {H : Type} {enc : TypeId × Value → H} {P : Program} {w : World} {base : Nat} {spare : Nat → Bool} {held : Bool}

theorem wf_b64 {n : Int} (h : (Lit.int .i64 n).wf = true) : B64 n := by
  simpa [Lit.wf, IntKind.min, IntKind.max, IntKind.signed, IntKind.bits, B64] using h

end
end Go.Proofs.Ytdfpenjhpemokaa
