/-
  What the functions of package fix return, and those of the reference that answer for them: each returns its plain function's number.
-/
import Derived.Test.YtdfpenjhpemokaaProg
import Derived.Test.YtdfpenjhpemokaaPl
import Derived.WalkKit
import Derived.WalkSpells
import Derived.WalkLawsBesides
set_option linter.unusedVariables false
set_option linter.unusedSimpArgs false
namespace Go.Proofs.Ytdfpenjhpemokaa
open Go.RowKit

def errV (k : Int) : Value := if k = 0 then .nilIface else .iface 23 (.int .i64 k)
theorem errV_ne {k : Int} (h : k ≠ 0) : errV k = .iface 23 (.int .i64 k) := if_neg h

theorem fixClip (x lo hi : Int) (w : World) : Calls Try.prog 133 #[.int .i64 x, .int .i64 lo, .int .i64 hi] w fun e w' => e = .returned (.int .i64 (pclip x lo hi)) ∧ w = w' := by
  go_enter Try.func133, Try.ntmps133
  go_wp2
  all_goals go_ret
  all_goals refine ⟨ret_int ?_, rfl⟩
  all_goals unfold pclip
  all_goals (repeat' split) <;> simp_all <;> omega

end Go.Proofs.Ytdfpenjhpemokaa
