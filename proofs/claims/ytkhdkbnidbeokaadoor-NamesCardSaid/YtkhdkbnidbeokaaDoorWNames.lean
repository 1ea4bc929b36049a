/-
  The law Names walked.
-/
import Derived.Test.YtkhdkbnidbeokaaDoorRows
import Derived.WalkKit
import Derived.WalkSpells
import Derived.WalkLawsBesides
namespace Go.Proofs.YtkhdkbnidbeokaaDoor
open Go.RowKit
set_option maxRecDepth 100000
set_option maxHeartbeats 400000 in
theorem small_one (w : World) : Calls Tryd.prog 12 #[.int .i64 1] w fun e w' => e = .returned (.string ⟨#[49]⟩) ∧ w = w' := by
  go_enter Tryd.func12, Tryd.ntmps12
  go_wp2
  go_ret
  exact ⟨congrArg Ending.returned (by kernel_rfl), rfl⟩
set_option maxHeartbeats 400000 in
theorem format_one (w : World) : Calls Tryd.prog 11 #[.int .i64 1, .int .i64 10] w fun e w' => e = .returned (.string ⟨#[49]⟩) ∧ w = w' := by
  go_enter Tryd.func11, Tryd.ntmps11
  go_wp2_with (go_at_call 12; refine (small_one _).mono ?_; rintro e w' ⟨rfl, rfl⟩)
  go_ret
  exact ⟨rfl, rfl⟩
set_option maxHeartbeats 400000 in
theorem itoa9_one (w : World) : Calls Tryd.prog 9 #[.int .i64 1] w fun e w' => e = .returned (.string ⟨#[49]⟩) ∧ w = w' := by
  go_enter Tryd.func9, Tryd.ntmps9
  go_wp2_with (go_at_call 11; refine (format_one _).mono ?_; rintro e w' ⟨rfl, rfl⟩)
  go_ret
  exact ⟨rfl, rfl⟩
set_option maxHeartbeats 400000 in
theorem itoa_one (w : World) : Calls Tryd.prog 6 #[.int .i64 1] w fun e w' => e = .returned (.string ⟨#[49]⟩) ∧ w = w' := by
  go_enter Tryd.func6, Tryd.ntmps6
  go_wp2_with (go_at_call 9; refine (itoa9_one _).mono ?_; rintro e w' ⟨rfl, rfl⟩)
  go_ret
  exact ⟨rfl, rfl⟩
set_option maxHeartbeats 400000 in
theorem error_one (w : World) : Calls Tryd.prog 4 #[.int .i64 1] w fun e w' => e = .returned (.string ⟨#[102, 117, 108, 109, 97, 114, 58, 32, 101, 114, 114, 111, 114, 32, 49]⟩) ∧ w = w' := by
  go_enter Tryd.func4, Tryd.ntmps4
  go_wp2_with (go_at_call 6; refine (itoa_one _).mono ?_; rintro e w' ⟨rfl, rfl⟩)
  go_ret
  exact ⟨congrArg Ending.returned (by kernel_rfl), rfl⟩
set_option maxHeartbeats 1000000 in
theorem div_third (w : World) : Calls Tryd.prog 5 #[.int .i64 256, .int .i64 768] w fun e w' => e = .returned (.tuple #[.int .i64 85, .nilIface]) ∧ w = w' := by
  go_enter Tryd.func5, Tryd.ntmps5
  go_wp2
  go_ret2
  exact ⟨congrArg Ending.returned (by kernel_rfl), rfl⟩
set_option maxHeartbeats 1000000 in
theorem walkNames (w : World) : Calls Tryd.prog 3 #[] w fun e w' => e = .returned (.bool true) ∧ Below w.heap.size w w' := by
  go_enter Tryd.func3, Tryd.ntmps3
  go_wp2_with (first | (go_at_call 4; refine (error_one _).mono ?_; rintro e w' ⟨rfl, rfl⟩) | (go_at_call 5; refine (div_third _).mono ?_; rintro e w' ⟨rfl, rfl⟩))
  go_ret
  exact ⟨congrArg Ending.returned (by kernel_rfl), Below.refl _ _⟩
end Go.Proofs.YtkhdkbnidbeokaaDoor
