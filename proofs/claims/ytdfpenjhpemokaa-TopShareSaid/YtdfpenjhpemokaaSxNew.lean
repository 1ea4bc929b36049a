/-
  Functions that hand back a list that they made: what is said of it; contracts of them. (Written by wip/dev/sx/mknew.py.)
-/
import Derived.Test.YtdfpenjhpemokaaSxStd
set_option linter.unusedVariables false
set_option linter.unusedSimpArgs false
namespace Go.Proofs.Ytdfpenjhpemokaa.Sx
open Go.RowKit
def NewList (ty : TypeId) (n0 : Nat) (w' : World) (L : List Int) (v : Value) : Prop :=
  ∃ bl c, ∃ arr : Array Value, v = .slice (some ⟨bl, 0, none⟩) L.length c ∧ n0 ≤ bl ∧ w'.heap[bl]? = some (.cells arr ty (0, 0)) ∧ arr.size = c ∧ L.length ≤ arr.size ∧ ∀ (i : Nat) (x : Int), L[i]? = some x → arr[i]? = some (.int .i64 x)
end Go.Proofs.Ytdfpenjhpemokaa.Sx
