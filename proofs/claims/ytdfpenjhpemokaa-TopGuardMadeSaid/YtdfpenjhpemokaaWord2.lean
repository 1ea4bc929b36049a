/-
  The reference's Word: a reading's word, bit by bit.
-/
import Derived.Test.YtdfpenjhpemokaaWord
set_option linter.unusedVariables false
set_option linter.unusedSimpArgs false
namespace Go.Proofs.Ytdfpenjhpemokaa
open Go.RowKit
def add31 (x : Nat) : Nat := x + 2147483648
def pword (T s t D : Nat) : Nat := if podd (T + s * 256 + D * 1024 + t * 536870912) then T + s * 256 + D * 1024 + t * 536870912 else add31 (T + s * 256 + D * 1024 + t * 536870912)
def bits19 (d : Int) : Nat := (d % 524288).toNat
theorem bits19_lt (d : Int) : bits19 d < 524288 := by unfold bits19; omega
end Go.Proofs.Ytdfpenjhpemokaa
