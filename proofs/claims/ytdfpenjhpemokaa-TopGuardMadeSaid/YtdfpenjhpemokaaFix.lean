/-
  What the functions of package fix return, and those of the reference that answer for them: each returns its plain function's number.
-/
import Derived.Test.YtdfpenjhpemokaaProg
import Derived.Test.YtdfpenjhpemokaaPl
import Derived.WalkKit
import Derived.WalkSpells
import Derived.WalkLawsBesides
set_option linter.unusedVariables false
set_option linter.unusedSimpArgs false
namespace Go.Proofs.Ytdfpenjhpemokaa
open Go.RowKit

def errV (k : Int) : Value := if k = 0 then .nilIface else .iface 23 (.int .i64 k)
theorem errV_0 : errV 0 = .nilIface := rfl
theorem errV_ne {k : Int} (h : k ≠ 0) : errV k = .iface 23 (.int .i64 k) := if_neg h

theorem fixClip (x lo hi : Int) (w : World) : Calls Try.prog 133 #[.int .i64 x, .int .i64 lo, .int .i64 hi] w fun e w' => e = .returned (.int .i64 (pclip x lo hi)) ∧ w = w' := by
  go_enter Try.func133, Try.ntmps133
  go_wp2
  all_goals go_ret
  all_goals refine ⟨ret_int ?_, rfl⟩
  all_goals unfold pclip
  all_goals (repeat' split) <;> simp_all <;> omega

theorem refClip (x lo hi : Int) (w : World) : Calls Try.prog 51 #[.int .i64 x, .int .i64 lo, .int .i64 hi] w fun e w' => e = .returned (.int .i64 (min (max x lo) hi)) ∧ w = w' := by
  go_enter Try.func51, Try.ntmps51
  go_wp2
  all_goals go_ret
  all_goals refine ⟨ret_int ?_, rfl⟩
  all_goals omega

theorem fixOf (x : Int) (w : World) : Calls Try.prog 140 #[.int .i64 x] w fun e w' => e = .returned (.int .i64 (pof x)) ∧ w = w' := by
  go_enter Try.func140, Try.ntmps140
  go_wp2_with (go_at_call 133; ((with_reducible refine (fixClip _ _ _ _).mono ?_); rintro e w' ⟨rfl, rfl⟩))
  go_ret
  exact ⟨ret_int (pof_eq x), rfl⟩

theorem nearest_pos (n d : Int) (w : World) (hd : 0 < d) (hd2 : d ≤ 4611686018427387904) (h2 : n ≤ 4611686014132420609) (hp : 0 ≤ n) :
    Calls Try.prog 141 #[.int .i64 n, .int .i64 d] w fun e w' => e = .returned (.int .i64 ((n + d / 2) / d)) ∧ w = w' := by
  go_enter Try.func141, Try.ntmps141
  go_wp2_with fail
  go_ret
  exact ⟨rfl, rfl⟩

theorem near256 (n : Int) : (n + 128) / 256 = (2 * n + 256) / (2 * 256) := by omega

theorem nearest_any (n : Int) (w : World) (h1 : -4611686014132420609 ≤ n) (h2 : n ≤ 4611686014132420609) :
    Calls Try.prog 141 #[.int .i64 n, .int .i64 256] w fun e w' => e = .returned (.int .i64 (paway n 256)) ∧ w = w' := by
  by_cases hn : n < 0
  · go_enter Try.func141, Try.ntmps141
    have b2 : (-n + 256 / 2) / 256 ≤ 4611686014132420609 := by omega
    have b3 : 0 ≤ (-n + 256 / 2) / 256 := by omega
    go_wp2_with (go_at_call 141; ((with_reducible refine (nearest_pos _ _ _ (by omega) (by omega) (by omega) (by omega)).mono ?_); rintro e w' ⟨rfl, rfl⟩))
    go_ret
    exact ⟨ret_int (by unfold paway; rw [if_pos hn, ← near256]), rfl⟩
  · refine (nearest_pos _ _ _ (by omega) (by omega) (by omega) (by omega)).mono ?_
    rintro e w' ⟨rfl, rfl⟩
    exact ⟨ret_int (by unfold paway; rw [if_neg hn, ← near256]; omega), rfl⟩

theorem fixMul (a b : Int) (w : World) : Calls Try.prog 68 #[.int .i64 a, .int .i64 b] w fun e w' => e = .returned (.int .i64 (pmul a b)) ∧ w = w' := by
  have hb := pof_mul a b
  obtain ⟨hb1, hb2⟩ := hb
  go_enter Try.func68, Try.ntmps68
  go_wp2_with (first | (go_at_call 140; ((with_reducible refine (fixOf _ _).mono ?_); rintro e w' ⟨rfl, rfl⟩)) | (go_at_call 141; ((with_reducible refine (nearest_any _ _ (by assumption) (by assumption)).mono ?_); rintro e w' ⟨rfl, rfl⟩)))
  go_ret
  exact ⟨ret_int rfl, rfl⟩

end Go.Proofs.Ytdfpenjhpemokaa
