/-
  guard.Check.
-/
import Derived.Test.YtdfpenjhpemokaaGuard2
import Derived.BigGuardPart
set_option linter.unusedVariables false
set_option linter.unusedSimpArgs false

namespace Go.Proofs.Ytdfpenjhpemokaa
open Go.RowKit

set_option maxHeartbeats 1000000 in
theorem guardCheck_1 (lo hi noise push most rate : Int) (w : World) (h : ¬ GFine lo hi noise push most rate) :
    Calls Try.prog 139 #[.agg #[.int .i64 lo, .int .i64 hi, .int .i64 noise, .int .i64 push, .int .i64 most, .int .i64 rate]] w fun e w' => e = .returned (errV 1) ∧ Below w.heap.size w w' := by
  have H := Lib.hid h
  clear h
  go_enter Try.func139, Try.ntmps139
  go_wp2_with (go_at_call 46; ((with_reducible refine (fixIn _ _ _ _).mono ?_); rintro e w' ⟨rfl, rfl⟩))
  all_goals first | (exfalso; apply H.out; unfold GFine; omega) | skip
  all_goals go_ret
  all_goals exact ⟨rfl, by go_grown⟩


theorem guardCheck (lo hi noise push most rate : Int) (w : World) :
    Calls Try.prog 139 #[.agg #[.int .i64 lo, .int .i64 hi, .int .i64 noise, .int .i64 push, .int .i64 most, .int .i64 rate]] w fun e w' => e = .returned (errV (pguardMay lo hi noise push most rate)) ∧ Below w.heap.size w w' := by
  unfold pguardMay
  by_cases h : GFine lo hi noise push most rate
  · rw [if_neg (by unfold GFine at h; exact not_not_intro h)]
    by_cases h1 : most < push
    · rw [if_pos (.inl h1)]; exact guardCheck_3a _ _ _ _ _ _ w h h1
    · by_cases h2 : rate < push
      · rw [if_pos (.inr (.inl h2))]; exact guardCheck_3b _ _ _ _ _ _ w h (by omega) h2
      · have := guardCheck_c lo hi noise push most rate w h (by omega) (by omega) _ rfl
        by_cases h3 : hi - lo < 2 * (noise + pbrake push rate most)
        · rw [if_pos (.inr (.inr h3))]; rwa [if_pos h3] at this
        · rw [if_neg (by omega)]; rwa [if_neg h3] at this
  · rw [if_pos (by unfold GFine at h; exact h)]
    exact guardCheck_1 _ _ _ _ _ _ w h
end Go.Proofs.Ytdfpenjhpemokaa
