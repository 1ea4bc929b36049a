/-
  Sums and products of numbers of two spans are between the corners'. No program in sight.
-/
import Derived.Test.YtdfpenjhpemokaaSpan3
namespace Go.Proofs.Ytdfpenjhpemokaa
open Go.RowKit

theorem paway_mono {n m : Int} (h : n ≤ m) : paway n 256 ≤ paway m 256 := by
  unfold paway; (repeat' split) <;> omega
theorem lin_bd {a x b : Int} (y : Int) (h1 : a ≤ x) (h2 : x ≤ b) : min (a * y) (b * y) ≤ x * y ∧ x * y ≤ max (a * y) (b * y) := by
  rcases Int.le_total 0 y with hy | hy
  · have g1 := Int.mul_le_mul_of_nonneg_right h1 hy
    have g2 := Int.mul_le_mul_of_nonneg_right h2 hy
    omega
  · have g1 := Int.mul_le_mul_of_nonpos_right h1 hy
    have g2 := Int.mul_le_mul_of_nonpos_right h2 hy
    omega
theorem corner_bd {a x b c y d : Int} (h1 : a ≤ x) (h2 : x ≤ b) (h3 : c ≤ y) (h4 : y ≤ d) :
    (a * c ≤ x * y ∨ a * d ≤ x * y ∨ b * c ≤ x * y ∨ b * d ≤ x * y) ∧ (x * y ≤ a * c ∨ x * y ≤ a * d ∨ x * y ≤ b * c ∨ x * y ≤ b * d) := by
  have g0 := lin_bd y h1 h2
  have g1 := lin_bd a h3 h4
  have g2 := lin_bd b h3 h4
  rw [Int.mul_comm c a, Int.mul_comm d a, Int.mul_comm y a] at g1
  rw [Int.mul_comm c b, Int.mul_comm d b, Int.mul_comm y b] at g2
  omega
theorem pmul_mono {a b x y : Int} (h : pof a * pof b ≤ pof x * pof y) : pmul a b ≤ pmul x y := pof_mono (paway_mono h)
theorem pmul_in {a x b c y d : Int} (h1 : a ≤ x) (h2 : x ≤ b) (h3 : c ≤ y) (h4 : y ≤ d) :
    hmin (pmul a c) (three (pmul a d) (pmul b c) (pmul b d)) 3 ≤ pmul x y ∧ pmul x y ≤ hmax (pmul a c) (three (pmul a d) (pmul b c) (pmul b d)) 3 := by
  rw [hmin3, hmax3]
  obtain ⟨g, k⟩ := corner_bd (pof_mono h1) (pof_mono h2) (pof_mono h3) (pof_mono h4)
  constructor
  · rcases g with g | g | g | g <;> have := pmul_mono g <;> omega
  · rcases k with g | g | g | g <;> have := pmul_mono g <;> omega
theorem psum2_bd {a x b c y d : Int} (h1 : a ≤ x) (h2 : x ≤ b) (h3 : c ≤ y) (h4 : y ≤ d) :
    psum2 a c ≤ psum2 x y ∧ psum2 x y ≤ psum2 b d := ⟨psum2_mono h1 h3, psum2_mono h2 h4⟩
/-- The least is one of the four, so is the greatest. -/
theorem hmin3_one (a x y z : Int) : hmin a (three x y z) 3 = a ∨ hmin a (three x y z) 3 = x ∨ hmin a (three x y z) 3 = y ∨ hmin a (three x y z) 3 = z := by
  rw [hmin3]; omega
theorem hmax3_one (a x y z : Int) : hmax a (three x y z) 3 = a ∨ hmax a (three x y z) 3 = x ∨ hmax a (three x y z) 3 = y ∨ hmax a (three x y z) 3 = z := by
  rw [hmax3]; omega
end Go.Proofs.Ytdfpenjhpemokaa
