/-
  The reference's words for errors and numbers: Code, Is, When, First, Between, Pick, Up, Down.
-/
import Derived.Test.YtdfpenjhpemokaaFix
import Derived.Lib.Hide
set_option linter.unusedVariables false
set_option linter.unusedSimpArgs false
namespace Go.Proofs.Ytdfpenjhpemokaa
open Go.RowKit

@[go_sem] theorem eqGuard_errV (op : BinOp) (t : TypeId) (x : Operand) (c : Value) (k : Int) : eqGuard op t x (.const c) (errV k) .nilIface = pure () := by
  by_cases h : k = 0
  · subst h; exact eqGuard_nil_constR _ _ _ _
  · rw [errV_ne h]; exact eqGuard_at_iface _ _ _ _ _ _ _
theorem neq_errno (k : Int) (w : World) : (binOp .neq 30 (.iface 23 (.int .i64 k)) .nilIface).run Try.prog w = .ok (.bool true) w := by kernel_rfl
theorem eql_errno (k : Int) (w : World) : (binOp .eql 30 (.iface 23 (.int .i64 k)) .nilIface).run Try.prog w = .ok (.bool false) w := by kernel_rfl
theorem neq_nilnil (w : World) : (binOp .neq 30 .nilIface .nilIface).run Try.prog w = .ok (.bool false) w := by kernel_rfl
theorem eql_nilnil (w : World) : (binOp .eql 30 .nilIface .nilIface).run Try.prog w = .ok (.bool true) w := by kernel_rfl
@[go_sem] theorem neq_errV (k : Int) (w : World) : (binOp .neq 30 (errV k) .nilIface).run Try.prog w = .ok (.bool (k != 0)) w := by
  by_cases h : k = 0
  · subst h; exact neq_nilnil w
  · have e : (k != 0) = true := by simpa using h
    rw [errV_ne h, e]
    exact neq_errno k w
@[go_sem] theorem eql_errV (k : Int) (w : World) : (binOp .eql 30 (errV k) .nilIface).run Try.prog w = .ok (.bool (k == 0)) w := by
  by_cases h : k = 0
  · subst h; exact eql_nilnil w
  · have e : (k == 0) = false := by simpa using h
    rw [errV_ne h, e]
    exact eql_errno k w

def pwhen (b : Bool) (j : Int) : Int := if b = true then j else 0
@[go_sem] theorem pwhen_true (j : Int) : pwhen true j = j := rfl
@[go_sem] theorem pwhen_false (j : Int) : pwhen false j = 0 := rfl

theorem refWhen (b : Bool) (j : Int) (w : World) : Calls Try.prog 30 #[.bool b, .int .i64 j] w fun e w' => e = .returned (.int .i64 (pwhen b j)) ∧ w = w' := by
  cases b
  all_goals
    go_enter Try.func30, Try.ntmps30
    go_wp2
    go_ret
    exact ⟨rfl, rfl⟩

theorem refBetween (x lo hi : Int) (w : World) : Calls Try.prog 47 #[.int .i64 x, .int .i64 lo, .int .i64 hi] w fun e w' => e = .returned (.bool (decide (lo ≤ x) && decide (x ≤ hi))) ∧ w = w' := by
  by_cases h : lo ≤ x
  · go_enter Try.func47, Try.ntmps47
    go_wp2
    go_ret
    exact ⟨ret_bool (by simp [h]), rfl⟩
  · go_enter Try.func47, Try.ntmps47
    go_wp2
    go_ret
    exact ⟨ret_bool (by rw [decide_eq_false (by omega : ¬ lo ≤ x)]; rfl), rfl⟩

theorem refBetween_t (x lo hi : Int) (w : World) (h1 : lo ≤ x) (h2 : x ≤ hi) : Calls Try.prog 47 #[.int .i64 x, .int .i64 lo, .int .i64 hi] w fun e w' => e = .returned (.bool true) ∧ w = w' := by
  have := refBetween x lo hi w
  rwa [decide_eq_true h1, decide_eq_true h2] at this

theorem refPick (x n : Int) (w : World) (hn : 0 < n) (hn2 : n ≤ 9223372036854775807) : Calls Try.prog 64 #[.int .i64 x, .int .i64 n] w fun e w' => e = .returned (.int .i64 (x % n)) ∧ w = w' := by
  have h1 := Int.emod_nonneg x (b := n) (by omega)
  by_cases h : 0 ≤ x
  · go_enter Try.func64, Try.ntmps64
    go_wp2
    all_goals go_ret
    all_goals exact ⟨ret_int rfl, rfl⟩
  · rcases pick_neg x n hn (by omega) with ⟨h3, h4, h5⟩ | ⟨h3, h4⟩
    · have H4 := Lib.hid h4
      clear h4 h1
      go_enter Try.func64, Try.ntmps64
      go_wp2
      go_ret
      exact ⟨ret_int H4.out.symm, rfl⟩
    · have H4 := Lib.hid h4
      have h3' : ¬ x.tmod n < 0 := by omega
      have H3 := Lib.hid h3
      clear h4 h1 h3
      go_enter Try.func64, Try.ntmps64
      go_wp2
      go_ret
      exact ⟨ret_int (H3.out.trans H4.out.symm), rfl⟩
end Go.Proofs.Ytdfpenjhpemokaa
