/-
  The reference's Watched.
-/
import Derived.Test.YtdfpenjhpemokaaAct2
namespace Go.Proofs.Ytdfpenjhpemokaa
open Go.RowKit

set_option maxHeartbeats 400000 in
theorem refWatched_out_t (travel rate slack confirm is bad x : Int) (w : World) (h : pservo travel rate slack confirm is bad true = 0) :
    Calls Try.prog 50 #[.agg #[.int .i64 travel, .int .i64 rate, .int .i64 slack, .int .i64 confirm], .agg #[.int .i64 is, .int .i64 bad, .bool true], .agg #[.bool true, .int .i64 x]] w fun e w' =>
    e = .returned (.agg #[.int .i64 is, .int .i64 bad, .bool true]) ∧ (((w.alloc (.cells #[.int .i64 travel, .int .i64 rate, .int .i64 slack, .int .i64 confirm] 53)).alloc (.cells #[.int .i64 is, .int .i64 bad, .bool true] 55)).alloc (.cells #[.bool true, .int .i64 x] 57)).alloc (.cells #[.int .i64 is, .int .i64 bad, .bool true] 55) = w' := by
  obtain ⟨⟨a1, a2, a3, a4, a5, a6, a7, a8⟩, b1, b2, b3, b4, b5, b6⟩ := pservo_0 h
  clear h b5 b6
  go_enter Try.func50, Try.ntmps50
  go_wp2_with (first | (go_at_call 47; ((with_reducible refine (refBetween_t _ _ _ _ (by omega) (by omega)).mono ?_); rintro e w' ⟨rfl, rfl⟩)) | (go_at_call 47; ((with_reducible refine (refBetween_f _ _ _ _ (by omega)).mono ?_); rintro e w' ⟨rfl, rfl⟩)))
  refine bodyPost_ret (v := .agg #[.int .i64 is, .int .i64 bad, .bool true]) ?_ rfl ⟨rfl, rfl⟩
  simp [results, Try.results50, go_sem]

set_option maxHeartbeats 400000 in
theorem refWatched_out_f (travel rate slack confirm is bad x : Int) (w : World) (h : pservo travel rate slack confirm is bad true = 0) :
    Calls Try.prog 50 #[.agg #[.int .i64 travel, .int .i64 rate, .int .i64 slack, .int .i64 confirm], .agg #[.int .i64 is, .int .i64 bad, .bool true], .agg #[.bool false, .int .i64 x]] w fun e w' =>
    e = .returned (.agg #[.int .i64 is, .int .i64 bad, .bool true]) ∧ (((w.alloc (.cells #[.int .i64 travel, .int .i64 rate, .int .i64 slack, .int .i64 confirm] 53)).alloc (.cells #[.int .i64 is, .int .i64 bad, .bool true] 55)).alloc (.cells #[.bool false, .int .i64 x] 57)).alloc (.cells #[.int .i64 is, .int .i64 bad, .bool true] 55) = w' := by
  obtain ⟨⟨a1, a2, a3, a4, a5, a6, a7, a8⟩, b1, b2, b3, b4, b5, b6⟩ := pservo_0 h
  clear h b5 b6
  go_enter Try.func50, Try.ntmps50
  go_wp2_with (first | (go_at_call 47; ((with_reducible refine (refBetween_t _ _ _ _ (by omega) (by omega)).mono ?_); rintro e w' ⟨rfl, rfl⟩)) | (go_at_call 47; ((with_reducible refine (refBetween_f _ _ _ _ (by omega)).mono ?_); rintro e w' ⟨rfl, rfl⟩)))
  refine bodyPost_ret (v := .agg #[.int .i64 is, .int .i64 bad, .bool true]) ?_ rfl ⟨rfl, rfl⟩
  simp [results, Try.results50, go_sem]

set_option maxHeartbeats 400000 in
theorem refWatched_silent_y (travel rate slack confirm is bad x : Int) (w : World) (h : pservo travel rate slack confirm is bad false = 0) (hc : bad + 1 = confirm) :
    Calls Try.prog 50 #[.agg #[.int .i64 travel, .int .i64 rate, .int .i64 slack, .int .i64 confirm], .agg #[.int .i64 is, .int .i64 bad, .bool false], .agg #[.bool false, .int .i64 x]] w fun e w' =>
    e = .returned (.agg #[.int .i64 0, .int .i64 (bad + 1), .bool true]) ∧ (((w.alloc (.cells #[.int .i64 travel, .int .i64 rate, .int .i64 slack, .int .i64 confirm] 53)).alloc (.cells #[.int .i64 0, .int .i64 (bad + 1), .bool true] 55)).alloc (.cells #[.bool false, .int .i64 x] 57)).alloc (.cells #[.int .i64 0, .int .i64 (bad + 1), .bool true] 55) = w' := by
  obtain ⟨⟨a1, a2, a3, a4, a5, a6, a7, a8⟩, b1, b2, b3, b4, b5, b6⟩ := pservo_0 h
  clear h b5 b6
  have hcb : (bad + 1 == confirm) = true := by simpa using hc
  clear hc
  go_enter Try.func50, Try.ntmps50
  go_wp2_with (first | (go_at_call 47; ((with_reducible refine (refBetween_t _ _ _ _ (by omega) (by omega)).mono ?_); rintro e w' ⟨rfl, rfl⟩)) | (go_at_call 47; ((with_reducible refine (refBetween_f _ _ _ _ (by omega)).mono ?_); rintro e w' ⟨rfl, rfl⟩)))
  refine bodyPost_ret (v := .agg #[.int .i64 0, .int .i64 (bad + 1), .bool true]) ?_ rfl ⟨rfl, rfl⟩
  simp [results, Try.results50, go_sem]

set_option maxHeartbeats 400000 in
theorem refWatched_off_y (travel rate slack confirm is bad x : Int) (w : World) (h : pservo travel rate slack confirm is bad false = 0) (hx : x < is - slack ∨ is + slack < x) (hc : bad + 1 = confirm) :
    Calls Try.prog 50 #[.agg #[.int .i64 travel, .int .i64 rate, .int .i64 slack, .int .i64 confirm], .agg #[.int .i64 is, .int .i64 bad, .bool false], .agg #[.bool true, .int .i64 x]] w fun e w' =>
    e = .returned (.agg #[.int .i64 0, .int .i64 (bad + 1), .bool true]) ∧ (((w.alloc (.cells #[.int .i64 travel, .int .i64 rate, .int .i64 slack, .int .i64 confirm] 53)).alloc (.cells #[.int .i64 0, .int .i64 (bad + 1), .bool true] 55)).alloc (.cells #[.bool true, .int .i64 x] 57)).alloc (.cells #[.int .i64 0, .int .i64 (bad + 1), .bool true] 55) = w' := by
  obtain ⟨⟨a1, a2, a3, a4, a5, a6, a7, a8⟩, b1, b2, b3, b4, b5, b6⟩ := pservo_0 h
  clear h b5 b6
  have hcb : (bad + 1 == confirm) = true := by simpa using hc
  clear hc
  go_enter Try.func50, Try.ntmps50
  go_wp2_with (first | (go_at_call 47; ((with_reducible refine (refBetween_t _ _ _ _ (by omega) (by omega)).mono ?_); rintro e w' ⟨rfl, rfl⟩)) | (go_at_call 47; ((with_reducible refine (refBetween_f _ _ _ _ (by omega)).mono ?_); rintro e w' ⟨rfl, rfl⟩)))
  refine bodyPost_ret (v := .agg #[.int .i64 0, .int .i64 (bad + 1), .bool true]) ?_ rfl ⟨rfl, rfl⟩
  simp [results, Try.results50, go_sem]

set_option maxHeartbeats 400000 in
theorem refWatched_silent_n (travel rate slack confirm is bad x : Int) (w : World) (h : pservo travel rate slack confirm is bad false = 0) (hc : ¬ bad + 1 = confirm) :
    Calls Try.prog 50 #[.agg #[.int .i64 travel, .int .i64 rate, .int .i64 slack, .int .i64 confirm], .agg #[.int .i64 is, .int .i64 bad, .bool false], .agg #[.bool false, .int .i64 x]] w fun e w' =>
    e = .returned (.agg #[.int .i64 is, .int .i64 (bad + 1), .bool false]) ∧ (((w.alloc (.cells #[.int .i64 travel, .int .i64 rate, .int .i64 slack, .int .i64 confirm] 53)).alloc (.cells #[.int .i64 is, .int .i64 (bad + 1), .bool false] 55)).alloc (.cells #[.bool false, .int .i64 x] 57)).alloc (.cells #[.int .i64 is, .int .i64 (bad + 1), .bool false] 55) = w' := by
  obtain ⟨⟨a1, a2, a3, a4, a5, a6, a7, a8⟩, b1, b2, b3, b4, b5, b6⟩ := pservo_0 h
  clear h b5 b6
  have hcb : (bad + 1 == confirm) = false := by simpa using hc
  clear hc
  go_enter Try.func50, Try.ntmps50
  go_wp2_with (first | (go_at_call 47; ((with_reducible refine (refBetween_t _ _ _ _ (by omega) (by omega)).mono ?_); rintro e w' ⟨rfl, rfl⟩)) | (go_at_call 47; ((with_reducible refine (refBetween_f _ _ _ _ (by omega)).mono ?_); rintro e w' ⟨rfl, rfl⟩)))
  refine bodyPost_ret (v := .agg #[.int .i64 is, .int .i64 (bad + 1), .bool false]) ?_ rfl ⟨rfl, rfl⟩
  simp [results, Try.results50, go_sem]

set_option maxHeartbeats 400000 in
theorem refWatched_off_n (travel rate slack confirm is bad x : Int) (w : World) (h : pservo travel rate slack confirm is bad false = 0) (hx : x < is - slack ∨ is + slack < x) (hc : ¬ bad + 1 = confirm) :
    Calls Try.prog 50 #[.agg #[.int .i64 travel, .int .i64 rate, .int .i64 slack, .int .i64 confirm], .agg #[.int .i64 is, .int .i64 bad, .bool false], .agg #[.bool true, .int .i64 x]] w fun e w' =>
    e = .returned (.agg #[.int .i64 is, .int .i64 (bad + 1), .bool false]) ∧ (((w.alloc (.cells #[.int .i64 travel, .int .i64 rate, .int .i64 slack, .int .i64 confirm] 53)).alloc (.cells #[.int .i64 is, .int .i64 (bad + 1), .bool false] 55)).alloc (.cells #[.bool true, .int .i64 x] 57)).alloc (.cells #[.int .i64 is, .int .i64 (bad + 1), .bool false] 55) = w' := by
  obtain ⟨⟨a1, a2, a3, a4, a5, a6, a7, a8⟩, b1, b2, b3, b4, b5, b6⟩ := pservo_0 h
  clear h b5 b6
  have hcb : (bad + 1 == confirm) = false := by simpa using hc
  clear hc
  go_enter Try.func50, Try.ntmps50
  go_wp2_with (first | (go_at_call 47; ((with_reducible refine (refBetween_t _ _ _ _ (by omega) (by omega)).mono ?_); rintro e w' ⟨rfl, rfl⟩)) | (go_at_call 47; ((with_reducible refine (refBetween_f _ _ _ _ (by omega)).mono ?_); rintro e w' ⟨rfl, rfl⟩)))
  refine bodyPost_ret (v := .agg #[.int .i64 is, .int .i64 (bad + 1), .bool false]) ?_ rfl ⟨rfl, rfl⟩
  simp [results, Try.results50, go_sem]

set_option maxHeartbeats 400000 in
theorem refWatched_in (travel rate slack confirm is bad x : Int) (w : World) (h : pservo travel rate slack confirm is bad false = 0) (hx : is - slack ≤ x) (hx2 : x ≤ is + slack) :
    Calls Try.prog 50 #[.agg #[.int .i64 travel, .int .i64 rate, .int .i64 slack, .int .i64 confirm], .agg #[.int .i64 is, .int .i64 bad, .bool false], .agg #[.bool true, .int .i64 x]] w fun e w' =>
    e = .returned (.agg #[.int .i64 is, .int .i64 bad, .bool false]) ∧ (((w.alloc (.cells #[.int .i64 travel, .int .i64 rate, .int .i64 slack, .int .i64 confirm] 53)).alloc (.cells #[.int .i64 is, .int .i64 bad, .bool false] 55)).alloc (.cells #[.bool true, .int .i64 x] 57)).alloc (.cells #[.int .i64 is, .int .i64 bad, .bool false] 55) = w' := by
  obtain ⟨⟨a1, a2, a3, a4, a5, a6, a7, a8⟩, b1, b2, b3, b4, b5, b6⟩ := pservo_0 h
  clear h b5 b6
  go_enter Try.func50, Try.ntmps50
  go_wp2_with (first | (go_at_call 47; ((with_reducible refine (refBetween_t _ _ _ _ (by omega) (by omega)).mono ?_); rintro e w' ⟨rfl, rfl⟩)) | (go_at_call 47; ((with_reducible refine (refBetween_f _ _ _ _ (by omega)).mono ?_); rintro e w' ⟨rfl, rfl⟩)))
  refine bodyPost_ret (v := .agg #[.int .i64 is, .int .i64 bad, .bool false]) ?_ rfl ⟨rfl, rfl⟩
  simp [results, Try.results50, go_sem]

end Go.Proofs.Ytdfpenjhpemokaa
