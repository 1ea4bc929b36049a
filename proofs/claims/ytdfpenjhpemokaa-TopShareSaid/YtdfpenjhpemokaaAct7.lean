/-
  Package act and its reference: one contract a function, for every servo that may be.
-/
import Derived.Test.YtdfpenjhpemokaaAct3
import Derived.Test.YtdfpenjhpemokaaAct4
import Derived.Test.YtdfpenjhpemokaaAct5
import Derived.Test.YtdfpenjhpemokaaAct6
set_option linter.unusedVariables false
set_option linter.unusedSimpArgs false
namespace Go.Proofs.Ytdfpenjhpemokaa
open Go.RowKit

def preach (travel rate is : Int) (out : Bool) : Int × Int := if out = true then (0, 0) else (prlo travel rate is, prhi travel rate is)

theorem actMove_ok (travel rate slack confirm is bad to m : Int) (out : Bool) (w : World) (h : pservo travel rate slack confirm is bad out = 0) (hq : Hid (pclip to (preach travel rate is out).1 (preach travel rate is out).2 = m)) :
    Calls Try.prog 53 #[.agg #[.int .i64 travel, .int .i64 rate, .int .i64 slack, .int .i64 confirm], .agg #[.int .i64 is, .int .i64 bad, .bool out], .int .i64 to] w fun e w' =>
    e = .returned (.tuple #[.agg #[.int .i64 m, .int .i64 bad, .bool out], errV 0]) ∧ Below w.heap.size w w' := by
  have hq := hq.out
  cases out
  · have e : preach travel rate is false = (prlo travel rate is, prhi travel rate is) := if_neg (by simp)
    rw [e] at hq
    subst hq
    exact actMove_in _ _ _ _ _ _ _ w h
  · have e : preach travel rate is true = (0, 0) := if_pos rfl
    rw [e] at hq
    rw [pclip_00] at hq
    subst hq
    exact actMove_out _ _ _ _ _ _ _ w h

theorem refClip_le (x lo hi : Int) (w : World) (h : lo ≤ hi) : Calls Try.prog 51 #[.int .i64 x, .int .i64 lo, .int .i64 hi] w fun e w' => e = .returned (.int .i64 (pclip x lo hi)) ∧ w = w' := by
  have := refClip x lo hi w
  rwa [pclip_min x lo hi h] at this
end Go.Proofs.Ytdfpenjhpemokaa
