/-
  The plain law of surfaces: what may be, where one can go, what it is behind having been seen. No program in sight.
-/
import Derived.Test.YtdfpenjhpemokaaPl
namespace Go.Proofs.Ytdfpenjhpemokaa
open Go.RowKit

/-- A rule's numbers are within their bounds. -/
def AFine (travel rate slack confirm : Int) : Prop := 1 ≤ travel ∧ travel ≤ 1000 ∧ 1 ≤ rate ∧ rate ≤ travel ∧ 0 ≤ slack ∧ slack ≤ travel ∧ 1 ≤ confirm ∧ confirm ≤ 10
def pactRule (travel rate slack confirm : Int) : Int := if 1 ≤ travel ∧ travel ≤ 1000 ∧ 1 ≤ rate ∧ rate ≤ travel ∧ 0 ≤ slack ∧ slack ≤ travel ∧ 1 ≤ confirm ∧ confirm ≤ 10 then 0 else 1
theorem pactRule_0 {travel rate slack confirm : Int} (h : pactRule travel rate slack confirm = 0) : AFine travel rate slack confirm := by
  unfold pactRule at h
  split at h
  · assumption
  · omega
theorem pactRule_of {travel rate slack confirm : Int} (h : AFine travel rate slack confirm) : pactRule travel rate slack confirm = 0 := if_pos h
theorem pactRule_1 {travel rate slack confirm : Int} (h : ¬ AFine travel rate slack confirm) : pactRule travel rate slack confirm = 1 := if_neg h

/-- A servo of a rule that may be may be. -/
def SFine (travel confirm is bad : Int) (out : Bool) : Prop := -travel ≤ is ∧ is ≤ travel ∧ 0 ≤ bad ∧ bad ≤ confirm ∧ (out = true → is = 0) ∧ (out = false → bad ≠ confirm)
/-- May a servo be. -/
def pservo (travel rate slack confirm is bad : Int) (out : Bool) : Int :=
  if pactRule travel rate slack confirm = 0 then (if -travel ≤ is ∧ is ≤ travel ∧ 0 ≤ bad ∧ bad ≤ confirm ∧ (out = true → is = 0) ∧ (out = false → bad ≠ confirm) then 0 else 3) else 1
theorem pservo_0 {travel rate slack confirm is bad : Int} {out : Bool} (h : pservo travel rate slack confirm is bad out = 0) : AFine travel rate slack confirm ∧ SFine travel confirm is bad out := by
  unfold pservo at h
  split at h
  · rename_i h1
    split at h
    · exact ⟨pactRule_0 h1, by assumption⟩
    · omega
  · omega
theorem pservo_of {travel rate slack confirm is bad : Int} {out : Bool} (h1 : AFine travel rate slack confirm) (h2 : SFine travel confirm is bad out) : pservo travel rate slack confirm is bad out = 0 := by
  unfold pservo
  rw [if_pos (pactRule_of h1)]
  exact if_pos h2
theorem pservo_3 {travel rate slack confirm is bad : Int} {out : Bool} (h1 : AFine travel rate slack confirm) (h2 : ¬ SFine travel confirm is bad out) : pservo travel rate slack confirm is bad out = 3 := by
  unfold pservo
  rw [if_pos (pactRule_of h1)]
  exact if_neg h2
theorem pservo_1 {travel rate slack confirm is bad : Int} {out : Bool} (h1 : ¬ AFine travel rate slack confirm) : pservo travel rate slack confirm is bad out = 1 := by
  unfold pservo
  rw [if_neg (by rw [pactRule_1 h1]; omega)]

/-- Where a surface can be in the next frame. -/
def prlo (travel rate is : Int) : Int := max (is - rate) (-travel)
def prhi (travel rate is : Int) : Int := min (is + rate) travel
/-- Was it seen where it should be. -/
def pseen (slack is : Int) (there : Bool) (x : Int) : Bool := there && decide (is - slack ≤ x) && decide (x ≤ is + slack)
end Go.Proofs.Ytdfpenjhpemokaa
