/-
  Plain functions on integers that the fixed-number layer computes, and small facts about them. No program in sight.
-/
import Derived.WalkKit
set_option linter.unusedVariables false
set_option linter.unusedSimpArgs false
namespace Go.Proofs.Ytdfpenjhpemokaa
open Go.RowKit

def pclip (x lo hi : Int) : Int := if x < lo ∨ hi < lo then lo else if hi < x then hi else x
def pof (x : Int) : Int := if x < -2147483647 then -2147483647 else if 2147483647 < x then 2147483647 else x

theorem pof_eq (x : Int) : pclip x (-2147483647) 2147483647 = pof x := by
  unfold pclip pof
  repeat' split
  all_goals omega
theorem pof_lo (x : Int) : -2147483647 ≤ pof x := by unfold pof; split <;> (try split) <;> omega
theorem pof_hi (x : Int) : pof x ≤ 2147483647 := by unfold pof; split <;> (try split) <;> omega
theorem pclip_min (x lo hi : Int) (h : lo ≤ hi) : min (max x lo) hi = pclip x lo hi := by
  unfold pclip; (repeat' split) <;> omega
theorem pclip_lo (x lo hi : Int) (h : lo ≤ hi) : lo ≤ pclip x lo hi := by unfold pclip; (repeat' split) <;> omega
theorem pclip_hi (x lo hi : Int) (h : lo ≤ hi) : pclip x lo hi ≤ hi := by unfold pclip; (repeat' split) <;> omega
theorem pclip_id (x lo hi : Int) (h1 : lo ≤ x) (h2 : x ≤ hi) : pclip x lo hi = x := by unfold pclip; (repeat' split) <;> omega

def paway (n d : Int) : Int := if n < 0 then -((2 * (-n) + d) / (2 * d)) else (2 * n + d) / (2 * d)
def pmul (a b : Int) : Int := pof (paway (pof a * pof b) 256)
theorem mul_le_mul_abs {a b A B : Int} (hA : 0 ≤ A) (hB : 0 ≤ B) (h1 : -A ≤ a) (h2 : a ≤ A) (h3 : -B ≤ b) (h4 : b ≤ B) : -(A * B) ≤ a * b ∧ a * b ≤ A * B := by
  have e1 : a * b ≤ A * B := by
    rcases Int.le_total 0 a with ha | ha
    · rcases Int.le_total 0 b with hb | hb
      · exact Int.mul_le_mul h2 h4 hb hA
      · have := Int.mul_nonneg ha (by omega : 0 ≤ -b)
        rw [Int.mul_neg] at this
        have := Int.mul_nonneg hA hB
        omega
    · rcases Int.le_total 0 b with hb | hb
      · have := Int.mul_nonneg (by omega : 0 ≤ -a) hb
        rw [Int.neg_mul] at this
        have := Int.mul_nonneg hA hB
        omega
      · have := Int.mul_le_mul (by omega : -a ≤ A) (by omega : -b ≤ B) (by omega) hA
        rw [Int.neg_mul_neg] at this
        exact this
  have e2 : (-a) * b ≤ A * B := by
    rcases Int.le_total 0 (-a) with ha | ha
    · rcases Int.le_total 0 b with hb | hb
      · exact Int.mul_le_mul (by omega) h4 hb hA
      · have := Int.mul_nonneg ha (by omega : 0 ≤ -b)
        rw [Int.mul_neg] at this
        have := Int.mul_nonneg hA hB
        omega
    · rcases Int.le_total 0 b with hb | hb
      · have := Int.mul_nonneg (by omega : 0 ≤ a) hb
        rw [Int.neg_mul]
        have := Int.mul_nonneg hA hB
        omega
      · have := Int.mul_le_mul (by omega : a ≤ A) (by omega : -b ≤ B) (by omega) hA
        rw [Int.neg_mul]
        rw [Int.mul_neg] at this
        exact this
  rw [Int.neg_mul] at e2
  exact ⟨by omega, e1⟩

theorem pof_mul (a b : Int) : -4611686014132420609 ≤ pof a * pof b ∧ pof a * pof b ≤ 4611686014132420609 := by
  have := mul_le_mul_abs (A := 2147483647) (B := 2147483647) (by omega) (by omega) (pof_lo a) (pof_hi a) (pof_lo b) (pof_hi b)
  omega

theorem pick_neg (x n : Int) (hn : 0 < n) (h : x < 0) : (x.tmod n < 0 ∧ x % n = x.tmod n + n ∧ -n < x.tmod n) ∨ (x.tmod n = 0 ∧ x % n = 0) := by
  have h1 := Int.emod_nonneg x (b := n) (by omega)
  have h2 := Int.emod_lt_of_pos x hn
  have e1 := Int.tmod_eq_emod (a := x) (b := n)
  rcases Classical.em (n ∣ x) with hc | hc
  · exact .inr ⟨Int.tmod_eq_zero_of_dvd hc, Int.emod_eq_zero_of_dvd hc⟩
  · rw [if_neg (fun h3 => h3.elim (fun h4 => absurd h4 (by omega)) hc)] at e1
    have h4 : x % n ≠ 0 := fun h5 => hc (Int.dvd_of_emod_eq_zero h5)
    exact .inl ⟨by omega, by omega, by omega⟩

theorem ret_int {k : IntKind} {a b : Int} (h : a = b) : Ending.returned (.int k a) = .returned (.int k b) := by rw [h]
theorem ret_bool {a b : Bool} (h : a = b) : Ending.returned (.bool a) = .returned (.bool b) := by rw [h]
end Go.Proofs.Ytdfpenjhpemokaa
