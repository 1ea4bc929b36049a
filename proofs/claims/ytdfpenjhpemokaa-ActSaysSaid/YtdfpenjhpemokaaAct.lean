/-
  Package act: CheckRule, Check; the reference's ActRuleMay, ServoMay.
-/
import Derived.Test.YtdfpenjhpemokaaActPl
import Derived.Test.YtdfpenjhpemokaaFix2
import Derived.Test.YtdfpenjhpemokaaGuard
import Derived.BigGuardPart
import Derived.Handy
namespace Go.Proofs.Ytdfpenjhpemokaa
open Go.RowKit

set_option maxHeartbeats 400000 in
theorem actCheckRule (travel rate slack confirm : Int) (w : World) : Calls Try.prog 55 #[.agg #[.int .i64 travel, .int .i64 rate, .int .i64 slack, .int .i64 confirm]] w fun e w' =>
    e = .returned (errV (pactRule travel rate slack confirm)) ∧ w.alloc (.cells #[.int .i64 travel, .int .i64 rate, .int .i64 slack, .int .i64 confirm] 53) = w' := by
  have hE : Hid (pactRule travel rate slack confirm = if 1 ≤ travel ∧ travel ≤ 1000 ∧ 1 ≤ rate ∧ rate ≤ travel ∧ 0 ≤ slack ∧ slack ≤ travel ∧ 1 ≤ confirm ∧ confirm ≤ 10 then 0 else 1) := rfl
  generalize pactRule travel rate slack confirm = r at *
  go_enter Try.func55, Try.ntmps55
  go_wp2
  all_goals go_ret
  all_goals refine ⟨?_, rfl⟩
  all_goals rw [hE.out]
  all_goals first | (rw [if_neg (by omega)]; rfl) | (rw [if_pos (by omega)]; rfl)

set_option maxHeartbeats 400000 in
theorem refActRuleMay (travel rate slack confirm : Int) (w : World) : Calls Try.prog 56 #[.agg #[.int .i64 travel, .int .i64 rate, .int .i64 slack, .int .i64 confirm]] w fun e w' =>
    e = .returned (.int .i64 (pactRule travel rate slack confirm)) ∧ w.alloc (.cells #[.int .i64 travel, .int .i64 rate, .int .i64 slack, .int .i64 confirm] 53) = w' := by
  have hE : Hid (pactRule travel rate slack confirm = if 1 ≤ travel ∧ travel ≤ 1000 ∧ 1 ≤ rate ∧ rate ≤ travel ∧ 0 ≤ slack ∧ slack ≤ travel ∧ 1 ≤ confirm ∧ confirm ≤ 10 then 0 else 1) := rfl
  generalize pactRule travel rate slack confirm = r at *
  go_enter Try.func56, Try.ntmps56
  go_wp2_with (first | (go_at_call 47; ((with_reducible refine (refBetween _ _ _ _).mono ?_); rintro e w' ⟨rfl, rfl⟩)) | (go_at_call 30; ((with_reducible refine (refWhen _ _ _).mono ?_); rintro e w' ⟨rfl, rfl⟩)))
  all_goals go_ret
  all_goals refine ⟨ret_int ?_, rfl⟩
  all_goals rw [hE.out]
  all_goals (try unfold pwhen)
  all_goals (try simp only [Bool.or_eq_true, Bool.not_eq_true', decide_eq_false_iff_not] at *)
  all_goals (repeat' split)
  all_goals omega

set_option maxHeartbeats 400000 in
theorem actCheck (travel rate slack confirm is bad : Int) (out : Bool) (w : World) :
    Calls Try.prog 57 #[.agg #[.int .i64 travel, .int .i64 rate, .int .i64 slack, .int .i64 confirm], .agg #[.int .i64 is, .int .i64 bad, .bool out]] w fun e w' =>
    e = .returned (errV (pservo travel rate slack confirm is bad out)) ∧ Below w.heap.size w w' := by
  by_cases h1 : AFine travel rate slack confirm
  · have hr := pactRule_of h1
    have hr2 : (pactRule travel rate slack confirm != 0) = false := by rw [hr]; rfl
    obtain ⟨a1, a2, a3, a4, a5, a6, a7, a8⟩ := h1
    have hE : Hid (pservo travel rate slack confirm is bad out = if -travel ≤ is ∧ is ≤ travel ∧ 0 ≤ bad ∧ bad ≤ confirm ∧ (out = true → is = 0) ∧ (out = false → bad ≠ confirm) then 0 else 3) := by
      unfold Hid pservo
      rw [if_pos hr]
    generalize pservo travel rate slack confirm is bad out = r at *
    clear hr
    cases out
    all_goals
      go_enter Try.func57, Try.ntmps57
      go_wp2_with (go_at_call 55; ((with_reducible refine (actCheckRule _ _ _ _ _).mono ?_); rintro e w' ⟨rfl, rfl⟩))
      all_goals go_ret
      all_goals refine ⟨?_, by (repeat' (first | (with_reducible exact Below.refl _ _) | (with_reducible assumption) | (with_reducible refine Below.alloc ?_ ?_ _) | (with_reducible refine Below.drew ?_) | (with_reducible refine below_drewN ?_ _) | (with_reducible refine Below.setCell ?_ ?_ _) | (with_reducible refine Below.trans ?_ (Below.mono (by assumption) ?_)) | omega | (simp; omega) | (simp; done)))⟩
      all_goals rw [hE.out]
      all_goals (try simp only [beq_iff_eq, beq_eq_false_iff_ne, bne_eq_false_iff_eq, ne_eq] at *)
      all_goals first | (rw [if_neg (by simp; omega)]; rfl) | (rw [if_pos (by simp; omega)]; rfl)
  · have hr : pactRule travel rate slack confirm = 1 := pactRule_1 h1
    have hr2 : (pactRule travel rate slack confirm != 0) = true := by rw [hr]; rfl
    have hE : Hid (pservo travel rate slack confirm is bad out = pactRule travel rate slack confirm) := (pservo_1 h1).trans hr.symm
    clear hr h1
    generalize pservo travel rate slack confirm is bad out = r at *
    go_enter Try.func57, Try.ntmps57
    go_wp2_with (go_at_call 55; ((with_reducible refine (actCheckRule _ _ _ _ _).mono ?_); rintro e w' ⟨rfl, rfl⟩))
    go_ret
    exact ⟨by rw [hE.out]; rfl, by (repeat' (first | (with_reducible exact Below.refl _ _) | (with_reducible assumption) | (with_reducible refine Below.alloc ?_ ?_ _) | (with_reducible refine Below.drew ?_) | (with_reducible refine below_drewN ?_ _) | (with_reducible refine Below.setCell ?_ ?_ _) | (with_reducible refine Below.trans ?_ (Below.mono (by assumption) ?_)) | omega | (simp; omega) | (simp; done)))⟩
end Go.Proofs.Ytdfpenjhpemokaa
