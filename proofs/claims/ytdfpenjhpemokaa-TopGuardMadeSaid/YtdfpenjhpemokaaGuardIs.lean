/-
  Contracts in the form that laws use: of a value that is named ahead.
-/
import Derived.Test.YtdfpenjhpemokaaBound2
import Derived.Test.YtdfpenjhpemokaaTop
set_option linter.unusedVariables false
set_option linter.unusedSimpArgs false
namespace Go.Proofs.Ytdfpenjhpemokaa
open Go.RowKit

theorem gMay_is (lo hi noise push most rate k : Int) (w : World) (h : Unit → pguardMay lo hi noise push most rate = k) :
    Calls Try.prog 58 #[.agg #[.int .i64 lo, .int .i64 hi, .int .i64 noise, .int .i64 push, .int .i64 most, .int .i64 rate]] w fun e w' => e = .returned (.int .i64 k) ∧ Below w.heap.size w w' := by
  rw [← h ()]; exact refGuardMay lo hi noise push most rate w
theorem pick_is (x n p : Int) (w : World) (hn : 0 < n) (hn2 : n ≤ 9223372036854775807) (h : Unit → x % n = p) : Calls Try.prog 64 #[.int .i64 x, .int .i64 n] w fun e w' => e = .returned (.int .i64 p) ∧ w = w' := by
  rw [← h ()]; exact refPick x n w hn hn2
theorem ask_of {lo hi noise push most rate s : Int} (h : pguardMay lo hi noise push most rate = 0) (h1 : -most ≤ s) (h2 : s ≤ most) : por (pguardMay lo hi noise push most rate) (paskMay most s) = 0 := by
  rw [h, por_0]; unfold paskMay; rw [if_neg (by omega)]
end Go.Proofs.Ytdfpenjhpemokaa
