/-
  The reference's words for errors and numbers: Code, Is, When, First, Between, Pick, Up, Down.
-/
import Derived.Test.YtdfpenjhpemokaaFix
import Derived.Lib.Hide
set_option linter.unusedVariables false
set_option linter.unusedSimpArgs false
namespace Go.Proofs.Ytdfpenjhpemokaa
open Go.RowKit

@[go_sem] theorem eqGuard_errV (op : BinOp) (t : TypeId) (x : Operand) (c : Value) (k : Int) : eqGuard op t x (.const c) (errV k) .nilIface = pure () := by
  by_cases h : k = 0
  · subst h; exact eqGuard_nil_constR _ _ _ _
  · rw [errV_ne h]; exact eqGuard_at_iface _ _ _ _ _ _ _
theorem neq_errno (k : Int) (w : World) : (binOp .neq 30 (.iface 23 (.int .i64 k)) .nilIface).run Try.prog w = .ok (.bool true) w := by kernel_rfl
theorem eql_errno (k : Int) (w : World) : (binOp .eql 30 (.iface 23 (.int .i64 k)) .nilIface).run Try.prog w = .ok (.bool false) w := by kernel_rfl
theorem neq_nilnil (w : World) : (binOp .neq 30 .nilIface .nilIface).run Try.prog w = .ok (.bool false) w := by kernel_rfl
theorem eql_nilnil (w : World) : (binOp .eql 30 .nilIface .nilIface).run Try.prog w = .ok (.bool true) w := by kernel_rfl
@[go_sem] theorem neq_errV (k : Int) (w : World) : (binOp .neq 30 (errV k) .nilIface).run Try.prog w = .ok (.bool (k != 0)) w := by
  by_cases h : k = 0
  · subst h; exact neq_nilnil w
  · have e : (k != 0) = true := by simpa using h
    rw [errV_ne h, e]
    exact neq_errno k w
@[go_sem] theorem eql_errV (k : Int) (w : World) : (binOp .eql 30 (errV k) .nilIface).run Try.prog w = .ok (.bool (k == 0)) w := by
  by_cases h : k = 0
  · subst h; exact eql_nilnil w
  · have e : (k == 0) = false := by simpa using h
    rw [errV_ne h, e]
    exact eql_errno k w

theorem assertErrno (k : Int) (w : World) : (Instr.typeAssert (.iface 23 (.int .i64 k)) 30 23 true).run Try.prog w = .ok (.tuple #[.int .i64 k, .bool true]) w := by kernel_rfl

theorem refCode (k : Int) (w : World) : Calls Try.prog 129 #[errV k] w fun e w' => e = .returned (.int .i64 k) ∧ w = w' := by
  by_cases hk : k = 0
  · subst hk
    rw [errV_0]
    go_enter Try.func129, Try.ntmps129
    go_wp2
    go_ret
    exact ⟨rfl, rfl⟩
  · rw [errV_ne hk]
    clear hk
    have hta := assertErrno
    go_enter Try.func129, Try.ntmps129
    go_wp2
    go_ret
    exact ⟨rfl, rfl⟩

theorem refIs (k j : Int) (w : World) : Calls Try.prog 34 #[errV k, .int .i64 j] w fun e w' => e = .returned (.bool (k == j)) ∧ w = w' := by
  go_enter Try.func34, Try.ntmps34
  go_wp2_with (go_at_call 129; ((with_reducible refine (refCode _ _).mono ?_); rintro e w' ⟨rfl, rfl⟩))
  go_ret
  exact ⟨rfl, rfl⟩

def pwhen (b : Bool) (j : Int) : Int := if b = true then j else 0
@[go_sem] theorem pwhen_true (j : Int) : pwhen true j = j := rfl
@[go_sem] theorem pwhen_false (j : Int) : pwhen false j = 0 := rfl

theorem refWhen (b : Bool) (j : Int) (w : World) : Calls Try.prog 30 #[.bool b, .int .i64 j] w fun e w' => e = .returned (.int .i64 (pwhen b j)) ∧ w = w' := by
  cases b
  all_goals
    go_enter Try.func30, Try.ntmps30
    go_wp2
    go_ret
    exact ⟨rfl, rfl⟩

end Go.Proofs.Ytdfpenjhpemokaa
