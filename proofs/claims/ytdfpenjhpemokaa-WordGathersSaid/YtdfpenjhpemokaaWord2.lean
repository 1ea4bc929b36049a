/-
  The reference's Word: a reading's word, bit by bit.
-/
import Derived.Test.YtdfpenjhpemokaaWord
set_option linter.unusedVariables false
set_option linter.unusedSimpArgs false
namespace Go.Proofs.Ytdfpenjhpemokaa
open Go.RowKit
theorem refOdd_is (x : Nat) (o : Bool) (w : World) (hx : x < 4294967296) (h : Unit → podd x = o) : Calls Try.prog 31 #[.int .u32 x] w fun e w' => e = .returned (.bool o) ∧ w = w' := by
  rw [← h ()]; exact refOdd x w hx

end Go.Proofs.Ytdfpenjhpemokaa
