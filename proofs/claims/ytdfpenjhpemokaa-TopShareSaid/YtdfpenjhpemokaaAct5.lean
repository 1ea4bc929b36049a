/-
  The plain law of surfaces: what may be, where one can go, what it is behind having been seen. No program in sight.
-/
import Derived.Test.YtdfpenjhpemokaaPl
import Derived.Test.YtdfpenjhpemokaaFix2
import Derived.Test.YtdfpenjhpemokaaGuard
import Derived.BigGuardPart
import Derived.Handy
import Derived.Deep.RegionHeld3
set_option linter.unusedVariables false
set_option linter.unusedSimpArgs false
namespace Go.Proofs.Ytdfpenjhpemokaa
open Go.RowKit

def AFine (travel rate slack confirm : Int) : Prop := 1 ≤ travel ∧ travel ≤ 1000 ∧ 1 ≤ rate ∧ rate ≤ travel ∧ 0 ≤ slack ∧ slack ≤ travel ∧ 1 ≤ confirm ∧ confirm ≤ 10
def pactRule (travel rate slack confirm : Int) : Int := if 1 ≤ travel ∧ travel ≤ 1000 ∧ 1 ≤ rate ∧ rate ≤ travel ∧ 0 ≤ slack ∧ slack ≤ travel ∧ 1 ≤ confirm ∧ confirm ≤ 10 then 0 else 1
theorem pactRule_0 {travel rate slack confirm : Int} (h : pactRule travel rate slack confirm = 0) : AFine travel rate slack confirm := by
  unfold pactRule at h
  split at h
  · assumption
  · omega
theorem pactRule_of {travel rate slack confirm : Int} (h : AFine travel rate slack confirm) : pactRule travel rate slack confirm = 0 := if_pos h
theorem pactRule_1 {travel rate slack confirm : Int} (h : ¬ AFine travel rate slack confirm) : pactRule travel rate slack confirm = 1 := if_neg h

def SFine (travel confirm is bad : Int) (out : Bool) : Prop := -travel ≤ is ∧ is ≤ travel ∧ 0 ≤ bad ∧ bad ≤ confirm ∧ (out = true → is = 0) ∧ (out = false → bad ≠ confirm)
def pservo (travel rate slack confirm is bad : Int) (out : Bool) : Int :=
  if pactRule travel rate slack confirm = 0 then (if -travel ≤ is ∧ is ≤ travel ∧ 0 ≤ bad ∧ bad ≤ confirm ∧ (out = true → is = 0) ∧ (out = false → bad ≠ confirm) then 0 else 3) else 1
theorem pservo_0 {travel rate slack confirm is bad : Int} {out : Bool} (h : pservo travel rate slack confirm is bad out = 0) : AFine travel rate slack confirm ∧ SFine travel confirm is bad out := by
  unfold pservo at h
  split at h
  · rename_i h1
    split at h
    · exact ⟨pactRule_0 h1, by assumption⟩
    · omega
  · omega
theorem pservo_of {travel rate slack confirm is bad : Int} {out : Bool} (h1 : AFine travel rate slack confirm) (h2 : SFine travel confirm is bad out) : pservo travel rate slack confirm is bad out = 0 := by
  unfold pservo
  rw [if_pos (pactRule_of h1)]
  exact if_pos h2
theorem pservo_1 {travel rate slack confirm is bad : Int} {out : Bool} (h1 : ¬ AFine travel rate slack confirm) : pservo travel rate slack confirm is bad out = 1 := by
  unfold pservo
  rw [if_neg (by rw [pactRule_1 h1]; omega)]

def prlo (travel rate is : Int) : Int := max (is - rate) (-travel)
def prhi (travel rate is : Int) : Int := min (is + rate) travel
end Go.Proofs.Ytdfpenjhpemokaa
/-
  Package act: CheckRule, Check; the reference's ActRuleMay, ServoMay.
-/
namespace Go.Proofs.Ytdfpenjhpemokaa
open Go.RowKit

set_option maxHeartbeats 400000 in
theorem actCheckRule (travel rate slack confirm : Int) (w : World) : Calls Try.prog 55 #[.agg #[.int .i64 travel, .int .i64 rate, .int .i64 slack, .int .i64 confirm]] w fun e w' =>
    e = .returned (errV (pactRule travel rate slack confirm)) ∧ w.alloc (.cells #[.int .i64 travel, .int .i64 rate, .int .i64 slack, .int .i64 confirm] 53) = w' := by
  have hE : Hid (pactRule travel rate slack confirm = if 1 ≤ travel ∧ travel ≤ 1000 ∧ 1 ≤ rate ∧ rate ≤ travel ∧ 0 ≤ slack ∧ slack ≤ travel ∧ 1 ≤ confirm ∧ confirm ≤ 10 then 0 else 1) := rfl
  generalize pactRule travel rate slack confirm = r at *
  go_enter Try.func55, Try.ntmps55
  go_wp2
  all_goals go_ret
  all_goals refine ⟨?_, rfl⟩
  all_goals rw [hE.out]
  all_goals first | (rw [if_neg (by omega)]; rfl) | (rw [if_pos (by omega)]; rfl)

set_option maxHeartbeats 400000 in
theorem actCheck (travel rate slack confirm is bad : Int) (out : Bool) (w : World) :
    Calls Try.prog 57 #[.agg #[.int .i64 travel, .int .i64 rate, .int .i64 slack, .int .i64 confirm], .agg #[.int .i64 is, .int .i64 bad, .bool out]] w fun e w' =>
    e = .returned (errV (pservo travel rate slack confirm is bad out)) ∧ Below w.heap.size w w' := by
  by_cases h1 : AFine travel rate slack confirm
  · have hr := pactRule_of h1
    have hr2 : (pactRule travel rate slack confirm != 0) = false := by rw [hr]; rfl
    obtain ⟨a1, a2, a3, a4, a5, a6, a7, a8⟩ := h1
    have hE : Hid (pservo travel rate slack confirm is bad out = if -travel ≤ is ∧ is ≤ travel ∧ 0 ≤ bad ∧ bad ≤ confirm ∧ (out = true → is = 0) ∧ (out = false → bad ≠ confirm) then 0 else 3) := by
      unfold Hid pservo
      rw [if_pos hr]
    generalize pservo travel rate slack confirm is bad out = r at *
    clear hr
    cases out
    all_goals
      go_enter Try.func57, Try.ntmps57
      go_wp2_with (go_at_call 55; ((with_reducible refine (actCheckRule _ _ _ _ _).mono ?_); rintro e w' ⟨rfl, rfl⟩))
      all_goals go_ret
      all_goals refine ⟨?_, by (repeat' (first | (with_reducible exact Below.refl _ _) | (with_reducible assumption) | (with_reducible refine Below.alloc ?_ ?_ _) | (with_reducible refine Below.drew ?_) | (with_reducible refine below_drewN ?_ _) | (with_reducible refine Below.setCell ?_ ?_ _) | (with_reducible refine Below.trans ?_ (Below.mono (by assumption) ?_)) | omega | (simp; omega) | (simp; done)))⟩
      all_goals rw [hE.out]
      all_goals (try simp only [beq_iff_eq, beq_eq_false_iff_ne, bne_eq_false_iff_eq, ne_eq] at *)
      all_goals first | (rw [if_neg (by simp; omega)]; rfl) | (rw [if_pos (by simp; omega)]; rfl)
  · have hr : pactRule travel rate slack confirm = 1 := pactRule_1 h1
    have hr2 : (pactRule travel rate slack confirm != 0) = true := by rw [hr]; rfl
    have hE : Hid (pservo travel rate slack confirm is bad out = pactRule travel rate slack confirm) := (pservo_1 h1).trans hr.symm
    clear hr h1
    generalize pservo travel rate slack confirm is bad out = r at *
    go_enter Try.func57, Try.ntmps57
    go_wp2_with (go_at_call 55; ((with_reducible refine (actCheckRule _ _ _ _ _).mono ?_); rintro e w' ⟨rfl, rfl⟩))
    go_ret
    exact ⟨by rw [hE.out]; rfl, by (repeat' (first | (with_reducible exact Below.refl _ _) | (with_reducible assumption) | (with_reducible refine Below.alloc ?_ ?_ _) | (with_reducible refine Below.drew ?_) | (with_reducible refine below_drewN ?_ _) | (with_reducible refine Below.setCell ?_ ?_ _) | (with_reducible refine Below.trans ?_ (Below.mono (by assumption) ?_)) | omega | (simp; omega) | (simp; done)))⟩
end Go.Proofs.Ytdfpenjhpemokaa
/-
  Package act: Reach, Move, Watch.
-/
namespace Go.Proofs.Ytdfpenjhpemokaa
open Go.RowKit

set_option maxHeartbeats 400000 in
theorem actReach_out (travel rate slack confirm is bad : Int) (w : World) (h : pservo travel rate slack confirm is bad true = 0) :
    Calls Try.prog 52 #[.agg #[.int .i64 travel, .int .i64 rate, .int .i64 slack, .int .i64 confirm], .agg #[.int .i64 is, .int .i64 bad, .bool true]] w fun e w' =>
    e = .returned (.tuple #[.agg #[.int .i64 0, .int .i64 0], errV 0]) ∧ Below w.heap.size w w' := by
  have hr2 : (pservo travel rate slack confirm is bad true != 0) = false := by rw [h]; rfl
  have H := Lib.hid h
  clear h
  go_enter Try.func52, Try.ntmps52
  go_wp2_with (go_at_call 57; ((with_reducible refine (actCheck _ _ _ _ _ _ _ _).mono ?_); rintro e w1 ⟨rfl, hb1⟩; have hz1 := hb1.size; (repeat (first | simp only [World.size_alloc] at hz1 | simp only [World.size_drew] at hz1 | simp only [World.size_setCell] at hz1)); have hB1 : Below w.heap.size w w1 := by (repeat' (first | (with_reducible exact Below.refl _ _) | (with_reducible assumption) | (with_reducible refine Below.alloc ?_ ?_ _) | (with_reducible refine Below.drew ?_) | (with_reducible refine below_drewN ?_ _) | (with_reducible refine Below.setCell ?_ ?_ _) | (with_reducible refine Below.trans ?_ (Below.mono (by assumption) ?_)) | omega | (simp; omega) | (simp; done)))); (have hq1_0 := fun o : Nat => hb1.cell (p := ⟨w.heap.size, o, none⟩) (by first | omega | (simp; done) | (simp; omega))); (have hf1_0 := fun o : Nat => hb1.frozen (p := ⟨w.heap.size, o, none⟩) (by first | omega | (simp; done) | (simp; omega))); (have hy1_0 : w.heap.size < w1.heap.size := by omega); (have hq1_1 := fun o : Nat => hb1.cell (p := ⟨w.heap.size + 1, o, none⟩) (by first | omega | (simp; done) | (simp; omega))); (have hf1_1 := fun o : Nat => hb1.frozen (p := ⟨w.heap.size + 1, o, none⟩) (by first | omega | (simp; done) | (simp; omega))); (have hy1_1 : w.heap.size + 1 < w1.heap.size := by omega); (have hq1_2 := fun o : Nat => hb1.cell (p := ⟨w.heap.size + 1 + 1, o, none⟩) (by first | omega | (simp; done) | (simp; omega))); (have hf1_2 := fun o : Nat => hb1.frozen (p := ⟨w.heap.size + 1 + 1, o, none⟩) (by first | omega | (simp; done) | (simp; omega))); (have hy1_2 : w.heap.size + 1 + 1 < w1.heap.size := by omega); clear hb1)
  refine bodyPost_ret (v := .tuple #[.agg #[.int .i64 0, .int .i64 0], errV (pservo travel rate slack confirm is bad true)]) ?_ rfl ⟨by rw [H.out], by (repeat' (first | (with_reducible exact Below.refl _ _) | (with_reducible assumption) | (with_reducible refine Below.alloc ?_ ?_ _) | (with_reducible refine Below.drew ?_) | (with_reducible refine below_drewN ?_ _) | (with_reducible refine Below.setCell ?_ ?_ _) | (with_reducible refine Below.trans ?_ (Below.mono (by assumption) ?_)) | omega | (simp; omega) | (simp; done)))⟩
  simp [results, Try.results52, go_sem, hq1_2]

set_option maxHeartbeats 400000 in
theorem actReach_err (travel rate slack confirm is bad : Int) (out : Bool) (w : World) (h : ¬ pservo travel rate slack confirm is bad out = 0) :
    Calls Try.prog 52 #[.agg #[.int .i64 travel, .int .i64 rate, .int .i64 slack, .int .i64 confirm], .agg #[.int .i64 is, .int .i64 bad, .bool out]] w fun e w' =>
    e = .returned (.tuple #[.agg #[.int .i64 0, .int .i64 0], errV (pservo travel rate slack confirm is bad out)]) ∧ Below w.heap.size w w' := by
  have hr2 : (pservo travel rate slack confirm is bad out != 0) = true := by simpa using h
  clear h
  go_enter Try.func52, Try.ntmps52
  go_wp2_with (go_at_call 57; ((with_reducible refine (actCheck _ _ _ _ _ _ _ _).mono ?_); rintro e w1 ⟨rfl, hb1⟩; have hz1 := hb1.size; (repeat (first | simp only [World.size_alloc] at hz1 | simp only [World.size_drew] at hz1 | simp only [World.size_setCell] at hz1)); have hB1 : Below w.heap.size w w1 := by (repeat' (first | (with_reducible exact Below.refl _ _) | (with_reducible assumption) | (with_reducible refine Below.alloc ?_ ?_ _) | (with_reducible refine Below.drew ?_) | (with_reducible refine below_drewN ?_ _) | (with_reducible refine Below.setCell ?_ ?_ _) | (with_reducible refine Below.trans ?_ (Below.mono (by assumption) ?_)) | omega | (simp; omega) | (simp; done)))); (have hq1_0 := fun o : Nat => hb1.cell (p := ⟨w.heap.size, o, none⟩) (by first | omega | (simp; done) | (simp; omega))); (have hf1_0 := fun o : Nat => hb1.frozen (p := ⟨w.heap.size, o, none⟩) (by first | omega | (simp; done) | (simp; omega))); (have hy1_0 : w.heap.size < w1.heap.size := by omega); (have hq1_1 := fun o : Nat => hb1.cell (p := ⟨w.heap.size + 1, o, none⟩) (by first | omega | (simp; done) | (simp; omega))); (have hf1_1 := fun o : Nat => hb1.frozen (p := ⟨w.heap.size + 1, o, none⟩) (by first | omega | (simp; done) | (simp; omega))); (have hy1_1 : w.heap.size + 1 < w1.heap.size := by omega); (have hq1_2 := fun o : Nat => hb1.cell (p := ⟨w.heap.size + 1 + 1, o, none⟩) (by first | omega | (simp; done) | (simp; omega))); (have hf1_2 := fun o : Nat => hb1.frozen (p := ⟨w.heap.size + 1 + 1, o, none⟩) (by first | omega | (simp; done) | (simp; omega))); (have hy1_2 : w.heap.size + 1 + 1 < w1.heap.size := by omega); clear hb1)
  refine bodyPost_ret (v := .tuple #[.agg #[.int .i64 0, .int .i64 0], errV (pservo travel rate slack confirm is bad out)]) ?_ rfl ⟨rfl, by (repeat' (first | (with_reducible exact Below.refl _ _) | (with_reducible assumption) | (with_reducible refine Below.alloc ?_ ?_ _) | (with_reducible refine Below.drew ?_) | (with_reducible refine below_drewN ?_ _) | (with_reducible refine Below.setCell ?_ ?_ _) | (with_reducible refine Below.trans ?_ (Below.mono (by assumption) ?_)) | omega | (simp; omega) | (simp; done)))⟩
  simp [results, Try.results52, go_sem, hq1_2]

set_option maxHeartbeats 400000 in
theorem actReach_in (travel rate slack confirm is bad lo hi : Int) (w : World) (h : pservo travel rate slack confirm is bad false = 0) (hlo : Hid (lo = prlo travel rate is)) (hhi : Hid (hi = prhi travel rate is)) :
    Calls Try.prog 52 #[.agg #[.int .i64 travel, .int .i64 rate, .int .i64 slack, .int .i64 confirm], .agg #[.int .i64 is, .int .i64 bad, .bool false]] w fun e w' =>
    e = .returned (.tuple #[.agg #[.int .i64 lo, .int .i64 hi], errV 0]) ∧ Below w.heap.size w w' := by
  have hr2 : (pservo travel rate slack confirm is bad false != 0) = false := by rw [h]; rfl
  obtain ⟨⟨a1, a2, a3, a4, a5, a6, a7, a8⟩, b1, b2, b3, b4, _, _⟩ := pservo_0 h
  clear h
  have c1 : (is - rate < -travel ∧ lo = -travel) ∨ (-travel ≤ is - rate ∧ lo = is - rate) := by
    have := hlo.out; unfold prlo at this; omega
  have c2 : (is + rate ≤ travel ∧ hi = is + rate) ∨ (travel < is + rate ∧ hi = travel) := by
    have := hhi.out; unfold prhi at this; omega
  clear hlo hhi
  have hz0 : pservo travel rate slack confirm is bad false = 0 := by simpa using hr2
  have HZ := Lib.hid hz0
  clear hz0
  rcases c1 with ⟨c1, e1⟩ | ⟨c1, e1⟩
  · have E1 := Lib.hid e1
    clear e1
    rcases c2 with ⟨c2, e2⟩ | ⟨c2, e2⟩
    · have E2 := Lib.hid e2
      clear e2
      go_enter Try.func52, Try.ntmps52
      go_wp2_with (go_at_call 57; ((with_reducible refine (actCheck _ _ _ _ _ _ _ _).mono ?_); rintro e w1 ⟨rfl, hb1⟩; have hz1 := hb1.size; (repeat (first | simp only [World.size_alloc] at hz1 | simp only [World.size_drew] at hz1 | simp only [World.size_setCell] at hz1)); have hB1 : Below w.heap.size w w1 := by (repeat' (first | (with_reducible exact Below.refl _ _) | (with_reducible assumption) | (with_reducible refine Below.alloc ?_ ?_ _) | (with_reducible refine Below.drew ?_) | (with_reducible refine below_drewN ?_ _) | (with_reducible refine Below.setCell ?_ ?_ _) | (with_reducible refine Below.trans ?_ (Below.mono (by assumption) ?_)) | omega | (simp; omega) | (simp; done)))); (have hq1_0 := fun o : Nat => hb1.cell (p := ⟨w.heap.size, o, none⟩) (by first | omega | (simp; done) | (simp; omega))); (have hf1_0 := fun o : Nat => hb1.frozen (p := ⟨w.heap.size, o, none⟩) (by first | omega | (simp; done) | (simp; omega))); (have hy1_0 : w.heap.size < w1.heap.size := by omega); (have hq1_1 := fun o : Nat => hb1.cell (p := ⟨w.heap.size + 1, o, none⟩) (by first | omega | (simp; done) | (simp; omega))); (have hf1_1 := fun o : Nat => hb1.frozen (p := ⟨w.heap.size + 1, o, none⟩) (by first | omega | (simp; done) | (simp; omega))); (have hy1_1 : w.heap.size + 1 < w1.heap.size := by omega); (have hq1_2 := fun o : Nat => hb1.cell (p := ⟨w.heap.size + 1 + 1, o, none⟩) (by first | omega | (simp; done) | (simp; omega))); (have hf1_2 := fun o : Nat => hb1.frozen (p := ⟨w.heap.size + 1 + 1, o, none⟩) (by first | omega | (simp; done) | (simp; omega))); (have hy1_2 : w.heap.size + 1 + 1 < w1.heap.size := by omega); clear hb1)
      refine bodyPost_ret (v := .tuple #[.agg #[.int .i64 (-travel), .int .i64 (is + rate)], .nilIface]) ?_ rfl ⟨by rw [E1.out, E2.out]; rfl, by (repeat' (first | (with_reducible exact Below.refl _ _) | (with_reducible assumption) | (with_reducible refine Below.alloc ?_ ?_ _) | (with_reducible refine Below.drew ?_) | (with_reducible refine below_drewN ?_ _) | (with_reducible refine Below.setCell ?_ ?_ _) | (with_reducible refine Below.trans ?_ (Below.mono (by assumption) ?_)) | omega | (simp; omega) | (simp; done)))⟩
      simp [results, Try.results52, go_sem, hq1_2]
    · exfalso; omega
  · have E1 := Lib.hid e1
    clear e1
    rcases c2 with ⟨c2, e2⟩ | ⟨c2, e2⟩
    · have E2 := Lib.hid e2
      clear e2
      go_enter Try.func52, Try.ntmps52
      go_wp2_with (go_at_call 57; ((with_reducible refine (actCheck _ _ _ _ _ _ _ _).mono ?_); rintro e w1 ⟨rfl, hb1⟩; have hz1 := hb1.size; (repeat (first | simp only [World.size_alloc] at hz1 | simp only [World.size_drew] at hz1 | simp only [World.size_setCell] at hz1)); have hB1 : Below w.heap.size w w1 := by (repeat' (first | (with_reducible exact Below.refl _ _) | (with_reducible assumption) | (with_reducible refine Below.alloc ?_ ?_ _) | (with_reducible refine Below.drew ?_) | (with_reducible refine below_drewN ?_ _) | (with_reducible refine Below.setCell ?_ ?_ _) | (with_reducible refine Below.trans ?_ (Below.mono (by assumption) ?_)) | omega | (simp; omega) | (simp; done)))); (have hq1_0 := fun o : Nat => hb1.cell (p := ⟨w.heap.size, o, none⟩) (by first | omega | (simp; done) | (simp; omega))); (have hf1_0 := fun o : Nat => hb1.frozen (p := ⟨w.heap.size, o, none⟩) (by first | omega | (simp; done) | (simp; omega))); (have hy1_0 : w.heap.size < w1.heap.size := by omega); (have hq1_1 := fun o : Nat => hb1.cell (p := ⟨w.heap.size + 1, o, none⟩) (by first | omega | (simp; done) | (simp; omega))); (have hf1_1 := fun o : Nat => hb1.frozen (p := ⟨w.heap.size + 1, o, none⟩) (by first | omega | (simp; done) | (simp; omega))); (have hy1_1 : w.heap.size + 1 < w1.heap.size := by omega); (have hq1_2 := fun o : Nat => hb1.cell (p := ⟨w.heap.size + 1 + 1, o, none⟩) (by first | omega | (simp; done) | (simp; omega))); (have hf1_2 := fun o : Nat => hb1.frozen (p := ⟨w.heap.size + 1 + 1, o, none⟩) (by first | omega | (simp; done) | (simp; omega))); (have hy1_2 : w.heap.size + 1 + 1 < w1.heap.size := by omega); clear hb1)
      refine bodyPost_ret (v := .tuple #[.agg #[.int .i64 (is - rate), .int .i64 (is + rate)], .nilIface]) ?_ rfl ⟨by rw [E1.out, E2.out]; rfl, by (repeat' (first | (with_reducible exact Below.refl _ _) | (with_reducible assumption) | (with_reducible refine Below.alloc ?_ ?_ _) | (with_reducible refine Below.drew ?_) | (with_reducible refine below_drewN ?_ _) | (with_reducible refine Below.setCell ?_ ?_ _) | (with_reducible refine Below.trans ?_ (Below.mono (by assumption) ?_)) | omega | (simp; omega) | (simp; done)))⟩
      simp [results, Try.results52, go_sem, hq1_2]
    · have E2 := Lib.hid e2
      clear e2
      go_enter Try.func52, Try.ntmps52
      go_wp2_with (go_at_call 57; ((with_reducible refine (actCheck _ _ _ _ _ _ _ _).mono ?_); rintro e w1 ⟨rfl, hb1⟩; have hz1 := hb1.size; (repeat (first | simp only [World.size_alloc] at hz1 | simp only [World.size_drew] at hz1 | simp only [World.size_setCell] at hz1)); have hB1 : Below w.heap.size w w1 := by (repeat' (first | (with_reducible exact Below.refl _ _) | (with_reducible assumption) | (with_reducible refine Below.alloc ?_ ?_ _) | (with_reducible refine Below.drew ?_) | (with_reducible refine below_drewN ?_ _) | (with_reducible refine Below.setCell ?_ ?_ _) | (with_reducible refine Below.trans ?_ (Below.mono (by assumption) ?_)) | omega | (simp; omega) | (simp; done)))); (have hq1_0 := fun o : Nat => hb1.cell (p := ⟨w.heap.size, o, none⟩) (by first | omega | (simp; done) | (simp; omega))); (have hf1_0 := fun o : Nat => hb1.frozen (p := ⟨w.heap.size, o, none⟩) (by first | omega | (simp; done) | (simp; omega))); (have hy1_0 : w.heap.size < w1.heap.size := by omega); (have hq1_1 := fun o : Nat => hb1.cell (p := ⟨w.heap.size + 1, o, none⟩) (by first | omega | (simp; done) | (simp; omega))); (have hf1_1 := fun o : Nat => hb1.frozen (p := ⟨w.heap.size + 1, o, none⟩) (by first | omega | (simp; done) | (simp; omega))); (have hy1_1 : w.heap.size + 1 < w1.heap.size := by omega); (have hq1_2 := fun o : Nat => hb1.cell (p := ⟨w.heap.size + 1 + 1, o, none⟩) (by first | omega | (simp; done) | (simp; omega))); (have hf1_2 := fun o : Nat => hb1.frozen (p := ⟨w.heap.size + 1 + 1, o, none⟩) (by first | omega | (simp; done) | (simp; omega))); (have hy1_2 : w.heap.size + 1 + 1 < w1.heap.size := by omega); clear hb1)
      refine bodyPost_ret (v := .tuple #[.agg #[.int .i64 (is - rate), .int .i64 (travel)], .nilIface]) ?_ rfl ⟨by rw [E1.out, E2.out]; rfl, by (repeat' (first | (with_reducible exact Below.refl _ _) | (with_reducible assumption) | (with_reducible refine Below.alloc ?_ ?_ _) | (with_reducible refine Below.drew ?_) | (with_reducible refine below_drewN ?_ _) | (with_reducible refine Below.setCell ?_ ?_ _) | (with_reducible refine Below.trans ?_ (Below.mono (by assumption) ?_)) | omega | (simp; omega) | (simp; done)))⟩
      simp [results, Try.results52, go_sem, hq1_2]
end Go.Proofs.Ytdfpenjhpemokaa
/-
  The reference's ServoMay, Reached.
-/
namespace Go.Proofs.Ytdfpenjhpemokaa
open Go.RowKit

end Go.Proofs.Ytdfpenjhpemokaa
