/-
  The reference's GuardMay whole; the guard's asked and Brake.
-/
import Derived.Test.YtdfpenjhpemokaaGuard3
import Derived.Test.YtdfpenjhpemokaaGuard4
set_option linter.unusedVariables false
set_option linter.unusedSimpArgs false
namespace Go.Proofs.Ytdfpenjhpemokaa
open Go.RowKit

set_option maxHeartbeats 400000 in
theorem refGuardMay_1 (lo hi noise push most rate : Int) (w : World) (h : ¬ GFine lo hi noise push most rate) :
    Calls Try.prog 58 #[.agg #[.int .i64 lo, .int .i64 hi, .int .i64 noise, .int .i64 push, .int .i64 most, .int .i64 rate]] w fun e w' => e = .returned (.int .i64 1) ∧ Below w.heap.size w w' := by
  have H := Lib.hid h
  clear h
  go_enter Try.func58, Try.ntmps58
  go_wp2_with (go_at_call 47; ((with_reducible refine (refBetween _ _ _ _).mono ?_); rintro e w' ⟨rfl, rfl⟩))
  all_goals first | (exfalso; apply H.out; unfold GFine; first | omega | (simp at *; omega)) | skip
  all_goals go_ret
  all_goals exact ⟨rfl, by go_grown⟩

theorem refGuardMay (lo hi noise push most rate : Int) (w : World) :
    Calls Try.prog 58 #[.agg #[.int .i64 lo, .int .i64 hi, .int .i64 noise, .int .i64 push, .int .i64 most, .int .i64 rate]] w fun e w' => e = .returned (.int .i64 (pguardMay lo hi noise push most rate)) ∧ Below w.heap.size w w' := by
  unfold pguardMay
  by_cases h : GFine lo hi noise push most rate
  · rw [if_neg (by unfold GFine at h; exact not_not_intro h)]
    by_cases h1 : most < push
    · rw [if_pos (.inl h1)]; exact refGuardMay_3 _ _ _ _ _ _ w h h1
    · by_cases h2 : rate < push
      · rw [if_pos (.inr (.inl h2))]; exact refGuardMay_3b _ _ _ _ _ _ w h (by omega) h2
      · have := refGuardMay_c lo hi noise push most rate w h (by omega) (by omega) _ rfl
        by_cases h3 : hi - lo < 2 * (noise + pbrake push rate most)
        · rw [if_pos (.inr (.inr h3))]; rwa [if_pos h3] at this
        · rw [if_neg (by omega)]; rwa [if_neg h3] at this
  · rw [if_pos (by unfold GFine at h; exact h)]
    exact refGuardMay_1 _ _ _ _ _ _ w h

theorem pguardMay_fine {lo hi noise push most rate : Int} (h : pguardMay lo hi noise push most rate = 0) : GFine lo hi noise push most rate ∧ push ≤ most ∧ push ≤ rate ∧ 2 * (noise + pbrake push rate most) ≤ hi - lo := by
  unfold pguardMay at h
  split at h
  · omega
  · rename_i h1
    split at h
    · omega
    · rename_i h2
      exact ⟨by unfold GFine; exact Decidable.not_not.1 h1, by omega, by omega, by omega⟩
def paskMay (most s : Int) : Int := if s < -most ∨ most < s then 1 else 0

theorem guardAsked (lo hi noise push most rate s : Int) (w : World) :
    Calls Try.prog 136 #[.agg #[.int .i64 lo, .int .i64 hi, .int .i64 noise, .int .i64 push, .int .i64 most, .int .i64 rate], .int .i64 s] w fun e w' =>
      e = .returned (errV (por (pguardMay lo hi noise push most rate) (paskMay most s))) ∧ Below w.heap.size w w' := by
  by_cases h : pguardMay lo hi noise push most rate = 0
  · have hf := pguardMay_fine h
    obtain ⟨⟨a1, a2, a3, a4, a5, a6, a7, a8, a9, a10, a11, a12⟩, b1, b2, b3⟩ := hf
    rw [h, por_0]
    have hz : (pguardMay lo hi noise push most rate == 0) = true := by simpa using h
    have hp : Hid (paskMay most s = if s < -most ∨ most < s then 1 else 0) := rfl
    have H := Lib.hid h
    clear h b3
    generalize paskMay most s = k at *
    go_enter Try.func136, Try.ntmps136
    go_wp2_with (go_at_call 139; ((with_reducible refine (guardCheck _ _ _ _ _ _ _).mono ?_); rintro e w' ⟨rfl, hb⟩; obtain ⟨hcb, hfb⟩ := bcell hb))
    all_goals go_ret
    all_goals refine ⟨?_, ((Below.refl _ _).alloc (Nat.le_refl _) _).trans (hb.mono (by simp))⟩
    · rw [hp.out, if_pos (.inl (by assumption))]; rfl
    · rw [hp.out, if_pos (.inr (by assumption))]; rfl
    · rw [hp.out, if_neg (by omega)]
      show Ending.returned (errV _) = _
      rw [H.out]
  · have hz : (pguardMay lo hi noise push most rate == 0) = false := by simpa using h
    rw [por_ne h]
    have H := Lib.hid h
    clear h
    go_enter Try.func136, Try.ntmps136
    go_wp2_with (go_at_call 139; ((with_reducible refine (guardCheck _ _ _ _ _ _ _).mono ?_); rintro e w' ⟨rfl, hb⟩; obtain ⟨hcb, hfb⟩ := bcell hb))
    go_ret
    exact ⟨rfl, ((Below.refl _ _).alloc (Nat.le_refl _) _).trans (hb.mono (by simp))⟩

end Go.Proofs.Ytdfpenjhpemokaa
