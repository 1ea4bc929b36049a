/-
  Plain laws of numbers that the parts of a law are shown with.
-/
import Derived.IntWalk
set_option linter.unusedVariables false
set_option linter.unusedSimpArgs false
namespace Go.Proofs.Ytdfpenjhpemokaa.Sx
theorem tdiv2 (x : Int) : x.tdiv 2 = if 0 ≤ x then x / 2 else -((-x) / 2) := by
  split
  · rw [Int.tdiv_eq_ediv_of_nonneg (by omega)]
  · rw [← Int.tdiv_eq_ediv_of_nonneg (by omega), Int.neg_tdiv]; omega
theorem tmod2 (x : Int) : x.tmod 2 = if 0 ≤ x then x % 2 else -((-x) % 2) := by
  split
  · rw [Int.tmod_eq_emod_of_nonneg (by omega)]
  · rw [← Int.tmod_eq_emod_of_nonneg (by omega), Int.neg_tmod]; omega
theorem wrap64' (n : Int) (h1 : -9223372036854775808 ≤ n) (h2 : n ≤ 9223372036854775807) : IntKind.wrap .i64 n = n := IntWalk.i64_in n ⟨h1, h2⟩
theorem ifNot (p q : Bool) : ((if p = true then q else !q) = true) = (p = true ↔ q = true) := by cases p <;> cases q <;> simp
theorem and_i {a b : Bool} (ha : a = true) (hb : b = true) : (a && b) = true := by rw [ha, hb]; rfl
end Go.Proofs.Ytdfpenjhpemokaa.Sx
