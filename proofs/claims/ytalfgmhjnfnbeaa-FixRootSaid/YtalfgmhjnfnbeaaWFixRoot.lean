/-
  fix.Root and the law FixRoot walked.
-/
import Derived.Test.YtalfgmhjnfnbeaaFrame
import Derived.Test.YtalfgmhjnfnbeaaFix2
namespace Go.Proofs.Ytalfgmhjnfnbeaa
open Go.RowKit

/-- r is the greatest number whose square is not above n. -/
def IsRoot (n r : Int) : Prop := 0 ≤ r ∧ r ≤ 1048576 ∧ r * r ≤ n ∧ n < (r + 1) * (r + 1)
def RootPost (a : Int) (w : World) (e : Ending) (w' : World) : Prop := ∃ r : Int, IsRoot (pof a * 256) r ∧ e = .returned (.tuple #[.int .i64 r, .nilIface]) ∧ w = w'

theorem sq_bd (x : Int) (h0 : 0 ≤ x) (h1 : x ≤ 1048577) : 0 ≤ x * x ∧ x * x ≤ 1099513724929 := by
  have := mul_le_mul_abs (A := 1048577) (B := 1048577) (by omega) (by omega) (by omega : -1048577 ≤ x) h1 (by omega : -1048577 ≤ x) h1
  have h := Int.mul_nonneg h0 h0
  omega

theorem fixRoot (a : Int) (w : World) (ha : 0 ≤ a) : Calls Try.prog 22 #[.int .i64 a] w (RootPost a w) := by
  have h1 : 0 ≤ pof a := by unfold pof; repeat' split <;> omega
  have h2 := pof_hi a
  go_enter Try.func22, Try.ntmps22
  go_wp2_with (go_at_call 36; ((with_reducible refine (fixOf _ _).mono ?_); rintro e w' ⟨rfl, rfl⟩))
  generalize hpa : pof a = p at *
  have HP := Lib.hid hpa
  clear hpa
  go_loop [5, 6] (fun lo hi => ∃ l h : Int, lo = .int .i64 l ∧ hi = .int .i64 h ∧ 0 ≤ l ∧ l ≤ h ∧ h ≤ 1048576 ∧ l * l ≤ p * 256 ∧ p * 256 < (h + 1) * (h + 1)) (fun lo hi => (intOf hi - intOf lo).toNat)
  case atStart => exact ⟨0, 1048576, rfl, rfl, by omega, by omega, by omega, by omega, by omega⟩
  case round =>
    obtain ⟨l, h, rfl, rfl, g1, g2, g3, g4, g5⟩ := hrel
    by_cases hlt : l < h
    · have hm1 : l < (l + h + 1) / 2 := by omega
      have hm2 : (l + h + 1) / 2 ≤ h := by omega
      have hq := sq_bd ((l + h + 1) / 2) (by omega) (by omega)
      obtain ⟨q1, q2⟩ := hq
      go_wp2
      · go_round
        case rel => exact ⟨_, _, rfl, rfl, by omega, by omega, by omega, by assumption, g5⟩
        case measure => simp [intOf]; omega
      · go_round
        case rel => exact ⟨_, _, rfl, rfl, by omega, by omega, by omega, g4, by rw [Int.sub_add_cancel]; assumption⟩
        case measure => simp [intOf]; omega
    · obtain rfl : h = l := by omega
      go_wp2
      go_ret2
      exact ⟨h, ⟨by omega, by omega, by rw [HP.out]; exact g4, by rw [HP.out]; exact g5⟩, rfl, rfl⟩

theorem fixRoot_neg (a : Int) (w : World) (ha : a < 0) : Calls Try.prog 22 #[.int .i64 a] w fun e w' => e = .returned (.tuple #[.int .i64 0, errV 1]) ∧ w = w' := by
  go_enter Try.func22, Try.ntmps22
  go_wp2
  go_ret2
  exact ⟨rfl, rfl⟩

theorem FixRoot_core (a : Int) (_ : B64 a) (w : World) : Calls Try.prog 5 #[.int .i64 a] w fun e w' => e = .returned (.bool true) ∧ Below w.heap.size w w' := by
  by_cases ha : a < 0
  · go_enter Try.func5, Try.ntmps5
    go_wp2_with (first | (go_at_call 22; ((with_reducible refine (fixRoot_neg _ _ (by assumption)).mono ?_); rintro e w' ⟨rfl, rfl⟩)) | (go_at_call 21; ((with_reducible refine (refIs _ _ _).mono ?_); rintro e w' ⟨rfl, rfl⟩)))
    go_ret
    exact ⟨rfl, Below.refl _ _⟩
  · have ha' : 0 ≤ a := by omega
    have h1 : 0 ≤ pof a := by unfold pof; repeat' split <;> omega
    have h2 := pof_hi a
    go_enter Try.func5, Try.ntmps5
    go_wp2_with fail
    refine (fixRoot a _ ha').mono ?_
    rintro e w' ⟨r, ⟨hr1, hr2, hr3, hr4⟩, rfl, rfl⟩
    have hq := sq_bd r (by omega) (by omega)
    obtain ⟨q1, q2⟩ := hq
    have hq := sq_bd (r + 1) (by omega) (by omega)
    obtain ⟨q3, q4⟩ := hq
    go_wp2_with (first | (go_at_call 23; ((with_reducible refine (refOf _ _).mono ?_); rintro e w' ⟨rfl, rfl⟩)) | (go_at_call 21; ((with_reducible refine (refIs _ _ _).mono ?_); rintro e w' ⟨rfl, rfl⟩)))
    go_ret
    exact ⟨rfl, Below.refl _ _⟩

end Go.Proofs.Ytalfgmhjnfnbeaa
