/-
  Package word: Unpack; the reference's ReadingOf.
-/
import Derived.Test.YtdfpenjhpemokaaWord
set_option linter.unusedVariables false
set_option linter.unusedSimpArgs false
namespace Go.Proofs.Ytdfpenjhpemokaa
open Go.RowKit
theorem wordOdd_is (x : Nat) (o : Bool) (w : World) (hx : x < 4294967296) (h : Unit → podd x = o) : Calls Try.prog 127 #[.int .u32 x] w fun e w' => e = .returned (.bool o) ∧ w = w' := by
  rw [← h ()]; exact wordOdd x w hx

theorem wordTurned_is (x t : Nat) (w : World) (hx : x < 4294967296) (h : Unit → turn8 x = t) : Calls Try.prog 128 #[.int .u32 x] w fun e w' => e = .returned (.int .u32 t) ∧ w = w' := by
  rw [← h ()]; exact wordTurned x w hx

end Go.Proofs.Ytdfpenjhpemokaa
