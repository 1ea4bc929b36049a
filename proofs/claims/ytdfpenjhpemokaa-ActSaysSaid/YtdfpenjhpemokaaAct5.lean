/-
  The reference's ServoMay, Reached.
-/
import Derived.Test.YtdfpenjhpemokaaAct2
namespace Go.Proofs.Ytdfpenjhpemokaa
open Go.RowKit

set_option maxHeartbeats 400000 in
theorem refServoMay_a (travel rate slack confirm is bad : Int) (out : Bool) (w : World) (h1 : AFine travel rate slack confirm) :
    Calls Try.prog 48 #[.agg #[.int .i64 travel, .int .i64 rate, .int .i64 slack, .int .i64 confirm], .agg #[.int .i64 is, .int .i64 bad, .bool out]] w fun e w' =>
    e = .returned (.int .i64 (pservo travel rate slack confirm is bad out)) ∧ Below w.heap.size w w' := by
  have hr := pactRule_of h1
  obtain ⟨a1, a2, a3, a4, a5, a6, a7, a8⟩ := h1
  have hE : Hid (pservo travel rate slack confirm is bad out = if -travel ≤ is ∧ is ≤ travel ∧ 0 ≤ bad ∧ bad ≤ confirm ∧ (out = true → is = 0) ∧ (out = false → bad ≠ confirm) then 0 else 3) := by
    unfold Hid pservo
    rw [if_pos hr]
  generalize pservo travel rate slack confirm is bad out = r at *
  have hp0 : pfirst [0, 0] = 0 := rfl
  have hp3 : pfirst [0, 3] = 3 := rfl
  have hpx : ∀ b : Bool, pfirst [0, pwhen b 3] = pwhen b 3 := fun b => by cases b <;> rfl
  cases out
  all_goals
    go_enter Try.func48, Try.ntmps48
    go_wp2_with (first | (go_at_call 47; ((with_reducible refine (refBetween _ _ _ _).mono ?_); rintro e w' ⟨rfl, rfl⟩)) | (go_at_call 30; ((with_reducible refine (refWhen _ _ _).mono ?_); rintro e w' ⟨rfl, rfl⟩)) | (go_at_call 56; ((with_reducible refine (refActRuleMay _ _ _ _ _).mono ?_); rintro e w' ⟨rfl, rfl⟩)) | (go_at_call 39; ((with_reducible refine (refFirst _ _ [_, _] 2 _ rfl (by omega) (cells2 _ _ _ _ _ _ (by simp))).mono ?_); rintro e w' ⟨rfl, rfl⟩)))
    all_goals go_ret
    all_goals refine ⟨ret_int ?_, by (repeat' (first | (with_reducible exact Below.refl _ _) | (with_reducible assumption) | (with_reducible refine Below.alloc ?_ ?_ _) | (with_reducible refine Below.drew ?_) | (with_reducible refine below_drewN ?_ _) | (with_reducible refine Below.setCell ?_ ?_ _) | (with_reducible refine Below.trans ?_ (Below.mono (by assumption) ?_)) | omega | (simp; omega) | (simp; done)))⟩
    all_goals rw [hE.out]
    all_goals (try unfold pwhen)
    all_goals (repeat' split)
    all_goals first | omega | (simp at *; omega)

set_option maxHeartbeats 400000 in
theorem refServoMay_b (travel rate slack confirm is bad : Int) (out : Bool) (w : World) (h1 : ¬ AFine travel rate slack confirm) :
    Calls Try.prog 48 #[.agg #[.int .i64 travel, .int .i64 rate, .int .i64 slack, .int .i64 confirm], .agg #[.int .i64 is, .int .i64 bad, .bool out]] w fun e w' =>
    e = .returned (.int .i64 (pservo travel rate slack confirm is bad out)) ∧ Below w.heap.size w w' := by
  have hE : Hid (pservo travel rate slack confirm is bad out = 1) := pservo_1 h1
  have hr := pactRule_1 h1
  clear h1
  generalize pservo travel rate slack confirm is bad out = r at *
  have hp1 : ∀ x, pfirst [1, x] = 1 := fun x => rfl
  cases out
  all_goals
    go_enter Try.func48, Try.ntmps48
    go_wp2_with (first | (go_at_call 47; ((with_reducible refine (refBetween _ _ _ _).mono ?_); rintro e w' ⟨rfl, rfl⟩)) | (go_at_call 30; ((with_reducible refine (refWhen _ _ _).mono ?_); rintro e w' ⟨rfl, rfl⟩)) | (go_at_call 56; ((with_reducible refine (refActRuleMay _ _ _ _ _).mono ?_); rintro e w' ⟨rfl, rfl⟩)) | (go_at_call 39; ((with_reducible refine (refFirst _ _ [_, _] 2 _ rfl (by omega) (cells2 _ _ _ _ _ _ (by simp))).mono ?_); rintro e w' ⟨rfl, rfl⟩)))
    all_goals go_ret
    all_goals exact ⟨ret_int hE.out.symm, by (repeat' (first | (with_reducible exact Below.refl _ _) | (with_reducible assumption) | (with_reducible refine Below.alloc ?_ ?_ _) | (with_reducible refine Below.drew ?_) | (with_reducible refine below_drewN ?_ _) | (with_reducible refine Below.setCell ?_ ?_ _) | (with_reducible refine Below.trans ?_ (Below.mono (by assumption) ?_)) | omega | (simp; omega) | (simp; done)))⟩

theorem refServoMay (travel rate slack confirm is bad : Int) (out : Bool) (w : World) :
    Calls Try.prog 48 #[.agg #[.int .i64 travel, .int .i64 rate, .int .i64 slack, .int .i64 confirm], .agg #[.int .i64 is, .int .i64 bad, .bool out]] w fun e w' =>
    e = .returned (.int .i64 (pservo travel rate slack confirm is bad out)) ∧ Below w.heap.size w w' := by
  by_cases h1 : AFine travel rate slack confirm
  · exact refServoMay_a _ _ _ _ _ _ _ w h1
  · exact refServoMay_b _ _ _ _ _ _ _ w h1

set_option maxHeartbeats 400000 in
theorem refReached_out (travel rate slack confirm is bad : Int) (w : World) :
    Calls Try.prog 49 #[.agg #[.int .i64 travel, .int .i64 rate, .int .i64 slack, .int .i64 confirm], .agg #[.int .i64 is, .int .i64 bad, .bool true]] w fun e w' =>
    e = .returned (.agg #[.int .i64 0, .int .i64 0]) ∧ ((w.alloc (.cells #[.int .i64 travel, .int .i64 rate, .int .i64 slack, .int .i64 confirm] 53)).alloc (.cells #[.int .i64 is, .int .i64 bad, .bool true] 55)).alloc (.cells #[.int .i64 0, .int .i64 0] 41) = w' := by
  go_enter Try.func49, Try.ntmps49
  go_wp2
  refine bodyPost_ret (v := .agg #[.int .i64 0, .int .i64 0]) ?_ rfl ⟨rfl, rfl⟩
  simp [results, Try.results49, go_sem]

set_option maxHeartbeats 400000 in
theorem refReached_in (travel rate slack confirm is bad lo hi : Int) (w : World) (h : pservo travel rate slack confirm is bad false = 0) (hlo : Hid (lo = prlo travel rate is)) (hhi : Hid (hi = prhi travel rate is)) :
    Calls Try.prog 49 #[.agg #[.int .i64 travel, .int .i64 rate, .int .i64 slack, .int .i64 confirm], .agg #[.int .i64 is, .int .i64 bad, .bool false]] w fun e w' =>
    e = .returned (.agg #[.int .i64 lo, .int .i64 hi]) ∧ ((w.alloc (.cells #[.int .i64 travel, .int .i64 rate, .int .i64 slack, .int .i64 confirm] 53)).alloc (.cells #[.int .i64 is, .int .i64 bad, .bool false] 55)).alloc (.cells #[.int .i64 lo, .int .i64 hi] 41) = w' := by
  obtain ⟨⟨a1, a2, a3, a4, a5, a6, a7, a8⟩, b1, b2, b3, b4, _, _⟩ := pservo_0 h
  clear h
  have c1 : (is - rate < -travel ∧ lo = -travel) ∨ (-travel ≤ is - rate ∧ lo = is - rate) := by
    have := hlo.out; unfold prlo at this; omega
  have c2 : (is + rate ≤ travel ∧ hi = is + rate) ∨ (travel < is + rate ∧ hi = travel) := by
    have := hhi.out; unfold prhi at this; omega
  clear hlo hhi
  rcases c1 with ⟨c1, e1⟩ | ⟨c1, e1⟩
  · have E1 := Lib.hid e1
    clear e1
    rcases c2 with ⟨c2, e2⟩ | ⟨c2, e2⟩
    · have E2 := Lib.hid e2
      clear e2
      go_enter Try.func49, Try.ntmps49
      go_wp2
      refine bodyPost_ret (v := .agg #[.int .i64 (-travel), .int .i64 (is + rate)]) ?_ rfl ⟨by rw [E1.out, E2.out], by rw [E1.out, E2.out]⟩
      simp [results, Try.results49, go_sem]
    · exfalso; omega
  · have E1 := Lib.hid e1
    clear e1
    rcases c2 with ⟨c2, e2⟩ | ⟨c2, e2⟩
    · have E2 := Lib.hid e2
      clear e2
      go_enter Try.func49, Try.ntmps49
      go_wp2
      refine bodyPost_ret (v := .agg #[.int .i64 (is - rate), .int .i64 (is + rate)]) ?_ rfl ⟨by rw [E1.out, E2.out], by rw [E1.out, E2.out]⟩
      simp [results, Try.results49, go_sem]
    · have E2 := Lib.hid e2
      clear e2
      go_enter Try.func49, Try.ntmps49
      go_wp2
      refine bodyPost_ret (v := .agg #[.int .i64 (is - rate), .int .i64 (travel)]) ?_ rfl ⟨by rw [E1.out, E2.out], by rw [E1.out, E2.out]⟩
      simp [results, Try.results49, go_sem]
end Go.Proofs.Ytdfpenjhpemokaa
