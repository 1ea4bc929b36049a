/-
  Package act and its reference: one contract a function, for every servo that may be.
-/
import Derived.Test.YtdfpenjhpemokaaAct3
import Derived.Test.YtdfpenjhpemokaaAct4
import Derived.Test.YtdfpenjhpemokaaAct5
import Derived.Test.YtdfpenjhpemokaaAct6
namespace Go.Proofs.Ytdfpenjhpemokaa
open Go.RowKit

/-- What a servo that may be is behind having been seen. -/
def pwtc (slack confirm is bad : Int) (out there : Bool) (x : Int) : Int × Int × Bool :=
  if out = true ∨ (there = true ∧ is - slack ≤ x ∧ x ≤ is + slack) then (is, bad, out) else if bad + 1 = confirm then (0, bad + 1, true) else (is, bad + 1, false)
/-- Where one that may be can go. -/
def preach (travel rate is : Int) (out : Bool) : Int × Int := if out = true then (0, 0) else (prlo travel rate is, prhi travel rate is)

theorem preach_le {travel rate slack confirm is bad : Int} {out : Bool} (h : pservo travel rate slack confirm is bad out = 0) : (preach travel rate is out).1 ≤ (preach travel rate is out).2 := by
  obtain ⟨⟨a1, a2, a3, a4, a5, a6, a7, a8⟩, b1, b2, b3, b4, _, b6⟩ := pservo_0 h
  unfold preach prlo prhi
  split
  · exact Int.le_refl _
  · simp only; omega

theorem actWatch_ok (travel rate slack confirm is bad x : Int) (out there : Bool) (a b : Int) (c : Bool) (w : World) (h : pservo travel rate slack confirm is bad out = 0) (hq : Hid (pwtc slack confirm is bad out there x = (a, b, c))) :
    Calls Try.prog 54 #[.agg #[.int .i64 travel, .int .i64 rate, .int .i64 slack, .int .i64 confirm], .agg #[.int .i64 is, .int .i64 bad, .bool out], .agg #[.bool there, .int .i64 x]] w fun e w' =>
    e = .returned (.tuple #[.agg #[.int .i64 a, .int .i64 b, .bool c], errV 0]) ∧ Below w.heap.size w w' := by
  have hq := hq.out
  unfold pwtc at hq
  cases out
  · cases there
    · rw [if_neg (by simp)] at hq
      by_cases hc : bad + 1 = confirm
      · rw [if_pos hc] at hq; cases hq; exact actWatch_silent_y _ _ _ _ _ _ _ w h hc
      · rw [if_neg hc] at hq; cases hq; exact actWatch_silent_n _ _ _ _ _ _ _ w h hc
    · by_cases hx : is - slack ≤ x ∧ x ≤ is + slack
      · rw [if_pos (.inr ⟨rfl, hx⟩)] at hq; cases hq; exact actWatch_in _ _ _ _ _ _ _ w h hx.1 hx.2
      · rw [if_neg (by simp; omega)] at hq
        by_cases hc : bad + 1 = confirm
        · rw [if_pos hc] at hq; cases hq; exact actWatch_off_y _ _ _ _ _ _ _ w h (by omega) hc
        · rw [if_neg hc] at hq; cases hq; exact actWatch_off_n _ _ _ _ _ _ _ w h (by omega) hc
  · rw [if_pos (.inl rfl)] at hq; cases hq; exact actWatch_out _ _ _ _ _ _ _ _ w h

theorem refWatched_ok (travel rate slack confirm is bad x : Int) (out there : Bool) (a b : Int) (c : Bool) (w : World) (h : pservo travel rate slack confirm is bad out = 0) (hq : Hid (pwtc slack confirm is bad out there x = (a, b, c))) :
    Calls Try.prog 50 #[.agg #[.int .i64 travel, .int .i64 rate, .int .i64 slack, .int .i64 confirm], .agg #[.int .i64 is, .int .i64 bad, .bool out], .agg #[.bool there, .int .i64 x]] w fun e w' =>
    e = .returned (.agg #[.int .i64 a, .int .i64 b, .bool c]) ∧ (((w.alloc (.cells #[.int .i64 travel, .int .i64 rate, .int .i64 slack, .int .i64 confirm] 53)).alloc (.cells #[.int .i64 a, .int .i64 b, .bool c] 55)).alloc (.cells #[.bool there, .int .i64 x] 57)).alloc (.cells #[.int .i64 a, .int .i64 b, .bool c] 55) = w' := by
  have hq := hq.out
  unfold pwtc at hq
  cases out
  · cases there
    · rw [if_neg (by simp)] at hq
      by_cases hc : bad + 1 = confirm
      · rw [if_pos hc] at hq; cases hq; exact refWatched_silent_y _ _ _ _ _ _ _ w h hc
      · rw [if_neg hc] at hq; cases hq; exact refWatched_silent_n _ _ _ _ _ _ _ w h hc
    · by_cases hx : is - slack ≤ x ∧ x ≤ is + slack
      · rw [if_pos (.inr ⟨rfl, hx⟩)] at hq; cases hq; exact refWatched_in _ _ _ _ _ _ _ w h hx.1 hx.2
      · rw [if_neg (by simp; omega)] at hq
        by_cases hc : bad + 1 = confirm
        · rw [if_pos hc] at hq; cases hq; exact refWatched_off_y _ _ _ _ _ _ _ w h (by omega) hc
        · rw [if_neg hc] at hq; cases hq; exact refWatched_off_n _ _ _ _ _ _ _ w h (by omega) hc
  · rw [if_pos (.inl rfl)] at hq; cases hq
    cases there
    · exact refWatched_out_f _ _ _ _ _ _ _ w h
    · exact refWatched_out_t _ _ _ _ _ _ _ w h

theorem refReached_ok (travel rate slack confirm is bad lo hi : Int) (out : Bool) (w : World) (h : pservo travel rate slack confirm is bad out = 0) (hq : Hid (preach travel rate is out = (lo, hi))) :
    Calls Try.prog 49 #[.agg #[.int .i64 travel, .int .i64 rate, .int .i64 slack, .int .i64 confirm], .agg #[.int .i64 is, .int .i64 bad, .bool out]] w fun e w' =>
    e = .returned (.agg #[.int .i64 lo, .int .i64 hi]) ∧ ((w.alloc (.cells #[.int .i64 travel, .int .i64 rate, .int .i64 slack, .int .i64 confirm] 53)).alloc (.cells #[.int .i64 is, .int .i64 bad, .bool out] 55)).alloc (.cells #[.int .i64 lo, .int .i64 hi] 41) = w' := by
  have hq := hq.out
  unfold preach at hq
  cases out
  · rw [if_neg (by simp)] at hq
    injection hq with h1 h2
    exact refReached_in _ _ _ _ _ _ lo hi w h h1.symm h2.symm
  · rw [if_pos rfl] at hq
    cases hq
    exact refReached_out _ _ _ _ _ _ w

theorem actReach_ok (travel rate slack confirm is bad lo hi : Int) (out : Bool) (w : World) (h : pservo travel rate slack confirm is bad out = 0) (hq : Hid (preach travel rate is out = (lo, hi))) :
    Calls Try.prog 52 #[.agg #[.int .i64 travel, .int .i64 rate, .int .i64 slack, .int .i64 confirm], .agg #[.int .i64 is, .int .i64 bad, .bool out]] w fun e w' =>
    e = .returned (.tuple #[.agg #[.int .i64 lo, .int .i64 hi], errV 0]) ∧ Below w.heap.size w w' := by
  have hq := hq.out
  unfold preach at hq
  cases out
  · rw [if_neg (by simp)] at hq
    injection hq with h1 h2
    exact actReach_in _ _ _ _ _ _ lo hi w h h1.symm h2.symm
  · rw [if_pos rfl] at hq
    cases hq
    exact actReach_out _ _ _ _ _ _ w h

theorem actMove_ok (travel rate slack confirm is bad to m : Int) (out : Bool) (w : World) (h : pservo travel rate slack confirm is bad out = 0) (hq : Hid (pclip to (preach travel rate is out).1 (preach travel rate is out).2 = m)) :
    Calls Try.prog 53 #[.agg #[.int .i64 travel, .int .i64 rate, .int .i64 slack, .int .i64 confirm], .agg #[.int .i64 is, .int .i64 bad, .bool out], .int .i64 to] w fun e w' =>
    e = .returned (.tuple #[.agg #[.int .i64 m, .int .i64 bad, .bool out], errV 0]) ∧ Below w.heap.size w w' := by
  have hq := hq.out
  cases out
  · have e : preach travel rate is false = (prlo travel rate is, prhi travel rate is) := if_neg (by simp)
    rw [e] at hq
    subst hq
    exact actMove_in _ _ _ _ _ _ _ w h
  · have e : preach travel rate is true = (0, 0) := if_pos rfl
    rw [e] at hq
    rw [pclip_00] at hq
    subst hq
    exact actMove_out _ _ _ _ _ _ _ w h

theorem refClip_le (x lo hi : Int) (w : World) (h : lo ≤ hi) : Calls Try.prog 51 #[.int .i64 x, .int .i64 lo, .int .i64 hi] w fun e w' => e = .returned (.int .i64 (pclip x lo hi)) ∧ w = w' := by
  have := refClip x lo hi w
  rwa [pclip_min x lo hi h] at this
end Go.Proofs.Ytdfpenjhpemokaa
