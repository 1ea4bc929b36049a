/-
  Plain functions on integers that the fixed-number layer computes, and small facts about them. No program in sight.
-/
import Derived.WalkKit
set_option linter.unusedVariables false
set_option linter.unusedSimpArgs false
namespace Go.Proofs.Ytdfpenjhpemokaa
open Go.RowKit

def pclip (x lo hi : Int) : Int := if x < lo ∨ hi < lo then lo else if hi < x then hi else x
def pof (x : Int) : Int := if x < -2147483647 then -2147483647 else if 2147483647 < x then 2147483647 else x

theorem pclip_min (x lo hi : Int) (h : lo ≤ hi) : min (max x lo) hi = pclip x lo hi := by
  unfold pclip; (repeat' split) <;> omega
theorem pclip_lo (x lo hi : Int) (h : lo ≤ hi) : lo ≤ pclip x lo hi := by unfold pclip; (repeat' split) <;> omega
theorem pclip_hi (x lo hi : Int) (h : lo ≤ hi) : pclip x lo hi ≤ hi := by unfold pclip; (repeat' split) <;> omega
def paway (n d : Int) : Int := if n < 0 then -((2 * (-n) + d) / (2 * d)) else (2 * n + d) / (2 * d)
def pmul (a b : Int) : Int := pof (paway (pof a * pof b) 256)
theorem pick_neg (x n : Int) (hn : 0 < n) (h : x < 0) : (x.tmod n < 0 ∧ x % n = x.tmod n + n ∧ -n < x.tmod n) ∨ (x.tmod n = 0 ∧ x % n = 0) := by
  have h1 := Int.emod_nonneg x (b := n) (by omega)
  have h2 := Int.emod_lt_of_pos x hn
  have e1 := Int.tmod_eq_emod (a := x) (b := n)
  rcases Classical.em (n ∣ x) with hc | hc
  · exact .inr ⟨Int.tmod_eq_zero_of_dvd hc, Int.emod_eq_zero_of_dvd hc⟩
  · rw [if_neg (fun h3 => h3.elim (fun h4 => absurd h4 (by omega)) hc)] at e1
    have h4 : x % n ≠ 0 := fun h5 => hc (Int.dvd_of_emod_eq_zero h5)
    exact .inl ⟨by omega, by omega, by omega⟩

theorem ret_int {k : IntKind} {a b : Int} (h : a = b) : Ending.returned (.int k a) = .returned (.int k b) := by rw [h]
end Go.Proofs.Ytdfpenjhpemokaa
