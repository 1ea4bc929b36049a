/-
  Plain functions on integers that the fixed-number layer computes, and small facts about them. No program in sight.
-/
import Derived.WalkKit
set_option linter.unusedVariables false
set_option linter.unusedSimpArgs false
namespace Go.Proofs.Ytdfpenjhpemokaa
open Go.RowKit

def pclip (x lo hi : Int) : Int := if x < lo ∨ hi < lo then lo else if hi < x then hi else x
theorem pclip_min (x lo hi : Int) (h : lo ≤ hi) : min (max x lo) hi = pclip x lo hi := by
  unfold pclip; (repeat' split) <;> omega
theorem ret_int {k : IntKind} {a b : Int} (h : a = b) : Ending.returned (.int k a) = .returned (.int k b) := by rw [h]
theorem ret_bool {a b : Bool} (h : a = b) : Ending.returned (.bool a) = .returned (.bool b) := by rw [h]
end Go.Proofs.Ytdfpenjhpemokaa
