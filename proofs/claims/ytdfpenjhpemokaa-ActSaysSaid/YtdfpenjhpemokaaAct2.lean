/-
  Package act: Reach, Move, Watch.
-/
import Derived.Test.YtdfpenjhpemokaaAct
import Derived.Deep.RegionHeld3
namespace Go.Proofs.Ytdfpenjhpemokaa
open Go.RowKit

/-- Two results, the first a struct of two ints. -/
theorem ret_span {a b c d : Int} {v : Value} (h : a = c) (h2 : b = d) : Ending.returned (.tuple #[.agg #[.int .i64 a, .int .i64 b], v]) = .returned (.tuple #[.agg #[.int .i64 c, .int .i64 d], v]) := by rw [h, h2]

set_option maxHeartbeats 400000 in
theorem actReach_out (travel rate slack confirm is bad : Int) (w : World) (h : pservo travel rate slack confirm is bad true = 0) :
    Calls Try.prog 52 #[.agg #[.int .i64 travel, .int .i64 rate, .int .i64 slack, .int .i64 confirm], .agg #[.int .i64 is, .int .i64 bad, .bool true]] w fun e w' =>
    e = .returned (.tuple #[.agg #[.int .i64 0, .int .i64 0], errV 0]) ∧ Below w.heap.size w w' := by
  have hr2 : (pservo travel rate slack confirm is bad true != 0) = false := by rw [h]; rfl
  have H := Lib.hid h
  clear h
  go_enter Try.func52, Try.ntmps52
  go_wp2_with (go_at_call 57; ((with_reducible refine (actCheck _ _ _ _ _ _ _ _).mono ?_); rintro e w1 ⟨rfl, hb1⟩; have hz1 := hb1.size; (try simp only [World.size_alloc] at hz1); have hB1 : Below w.heap.size w w1 := by (repeat' (first | (with_reducible exact Below.refl _ _) | (with_reducible assumption) | (with_reducible refine Below.alloc ?_ ?_ _) | (with_reducible refine Below.drew ?_) | (with_reducible refine below_drewN ?_ _) | (with_reducible refine Below.setCell ?_ ?_ _) | (with_reducible refine Below.trans ?_ (Below.mono (by assumption) ?_)) | omega | (simp; omega) | (simp; done)))); (have hq1_0 := fun o : Nat => hb1.cell (p := ⟨w.heap.size, o, none⟩) (by first | omega | (simp; done) | (simp; omega))); (have hf1_0 := fun o : Nat => hb1.frozen (p := ⟨w.heap.size, o, none⟩) (by first | omega | (simp; done) | (simp; omega))); (have hy1_0 : w.heap.size < w1.heap.size := by omega); (have hq1_1 := fun o : Nat => hb1.cell (p := ⟨w.heap.size + 1, o, none⟩) (by first | omega | (simp; done) | (simp; omega))); (have hf1_1 := fun o : Nat => hb1.frozen (p := ⟨w.heap.size + 1, o, none⟩) (by first | omega | (simp; done) | (simp; omega))); (have hy1_1 : w.heap.size + 1 < w1.heap.size := by omega); (have hq1_2 := fun o : Nat => hb1.cell (p := ⟨w.heap.size + 1 + 1, o, none⟩) (by first | omega | (simp; done) | (simp; omega))); (have hf1_2 := fun o : Nat => hb1.frozen (p := ⟨w.heap.size + 1 + 1, o, none⟩) (by first | omega | (simp; done) | (simp; omega))); (have hy1_2 : w.heap.size + 1 + 1 < w1.heap.size := by omega); clear hb1)
  refine bodyPost_ret (v := .tuple #[.agg #[.int .i64 0, .int .i64 0], errV (pservo travel rate slack confirm is bad true)]) ?_ rfl ⟨by rw [H.out], by (repeat' (first | (with_reducible exact Below.refl _ _) | (with_reducible assumption) | (with_reducible refine Below.alloc ?_ ?_ _) | (with_reducible refine Below.drew ?_) | (with_reducible refine below_drewN ?_ _) | (with_reducible refine Below.setCell ?_ ?_ _) | (with_reducible refine Below.trans ?_ (Below.mono (by assumption) ?_)) | omega | (simp; omega) | (simp; done)))⟩
  simp [results, Try.results52, go_sem, hq1_2]

set_option maxHeartbeats 400000 in
theorem actReach_err (travel rate slack confirm is bad : Int) (out : Bool) (w : World) (h : ¬ pservo travel rate slack confirm is bad out = 0) :
    Calls Try.prog 52 #[.agg #[.int .i64 travel, .int .i64 rate, .int .i64 slack, .int .i64 confirm], .agg #[.int .i64 is, .int .i64 bad, .bool out]] w fun e w' =>
    e = .returned (.tuple #[.agg #[.int .i64 0, .int .i64 0], errV (pservo travel rate slack confirm is bad out)]) ∧ Below w.heap.size w w' := by
  have hr2 : (pservo travel rate slack confirm is bad out != 0) = true := by simpa using h
  clear h
  go_enter Try.func52, Try.ntmps52
  go_wp2_with (go_at_call 57; ((with_reducible refine (actCheck _ _ _ _ _ _ _ _).mono ?_); rintro e w1 ⟨rfl, hb1⟩; have hz1 := hb1.size; (try simp only [World.size_alloc] at hz1); have hB1 : Below w.heap.size w w1 := by (repeat' (first | (with_reducible exact Below.refl _ _) | (with_reducible assumption) | (with_reducible refine Below.alloc ?_ ?_ _) | (with_reducible refine Below.drew ?_) | (with_reducible refine below_drewN ?_ _) | (with_reducible refine Below.setCell ?_ ?_ _) | (with_reducible refine Below.trans ?_ (Below.mono (by assumption) ?_)) | omega | (simp; omega) | (simp; done)))); (have hq1_0 := fun o : Nat => hb1.cell (p := ⟨w.heap.size, o, none⟩) (by first | omega | (simp; done) | (simp; omega))); (have hf1_0 := fun o : Nat => hb1.frozen (p := ⟨w.heap.size, o, none⟩) (by first | omega | (simp; done) | (simp; omega))); (have hy1_0 : w.heap.size < w1.heap.size := by omega); (have hq1_1 := fun o : Nat => hb1.cell (p := ⟨w.heap.size + 1, o, none⟩) (by first | omega | (simp; done) | (simp; omega))); (have hf1_1 := fun o : Nat => hb1.frozen (p := ⟨w.heap.size + 1, o, none⟩) (by first | omega | (simp; done) | (simp; omega))); (have hy1_1 : w.heap.size + 1 < w1.heap.size := by omega); (have hq1_2 := fun o : Nat => hb1.cell (p := ⟨w.heap.size + 1 + 1, o, none⟩) (by first | omega | (simp; done) | (simp; omega))); (have hf1_2 := fun o : Nat => hb1.frozen (p := ⟨w.heap.size + 1 + 1, o, none⟩) (by first | omega | (simp; done) | (simp; omega))); (have hy1_2 : w.heap.size + 1 + 1 < w1.heap.size := by omega); clear hb1)
  refine bodyPost_ret (v := .tuple #[.agg #[.int .i64 0, .int .i64 0], errV (pservo travel rate slack confirm is bad out)]) ?_ rfl ⟨rfl, by (repeat' (first | (with_reducible exact Below.refl _ _) | (with_reducible assumption) | (with_reducible refine Below.alloc ?_ ?_ _) | (with_reducible refine Below.drew ?_) | (with_reducible refine below_drewN ?_ _) | (with_reducible refine Below.setCell ?_ ?_ _) | (with_reducible refine Below.trans ?_ (Below.mono (by assumption) ?_)) | omega | (simp; omega) | (simp; done)))⟩
  simp [results, Try.results52, go_sem, hq1_2]

set_option maxHeartbeats 400000 in
theorem actReach_in (travel rate slack confirm is bad lo hi : Int) (w : World) (h : pservo travel rate slack confirm is bad false = 0) (hlo : Hid (lo = prlo travel rate is)) (hhi : Hid (hi = prhi travel rate is)) :
    Calls Try.prog 52 #[.agg #[.int .i64 travel, .int .i64 rate, .int .i64 slack, .int .i64 confirm], .agg #[.int .i64 is, .int .i64 bad, .bool false]] w fun e w' =>
    e = .returned (.tuple #[.agg #[.int .i64 lo, .int .i64 hi], errV 0]) ∧ Below w.heap.size w w' := by
  have hr2 : (pservo travel rate slack confirm is bad false != 0) = false := by rw [h]; rfl
  obtain ⟨⟨a1, a2, a3, a4, a5, a6, a7, a8⟩, b1, b2, b3, b4, _, _⟩ := pservo_0 h
  clear h
  have c1 : (is - rate < -travel ∧ lo = -travel) ∨ (-travel ≤ is - rate ∧ lo = is - rate) := by
    have := hlo.out; unfold prlo at this; omega
  have c2 : (is + rate ≤ travel ∧ hi = is + rate) ∨ (travel < is + rate ∧ hi = travel) := by
    have := hhi.out; unfold prhi at this; omega
  clear hlo hhi
  have hz0 : pservo travel rate slack confirm is bad false = 0 := by simpa using hr2
  have HZ := Lib.hid hz0
  clear hz0
  rcases c1 with ⟨c1, e1⟩ | ⟨c1, e1⟩
  · have E1 := Lib.hid e1
    clear e1
    rcases c2 with ⟨c2, e2⟩ | ⟨c2, e2⟩
    · have E2 := Lib.hid e2
      clear e2
      go_enter Try.func52, Try.ntmps52
      go_wp2_with (go_at_call 57; ((with_reducible refine (actCheck _ _ _ _ _ _ _ _).mono ?_); rintro e w1 ⟨rfl, hb1⟩; have hz1 := hb1.size; (try simp only [World.size_alloc] at hz1); have hB1 : Below w.heap.size w w1 := by (repeat' (first | (with_reducible exact Below.refl _ _) | (with_reducible assumption) | (with_reducible refine Below.alloc ?_ ?_ _) | (with_reducible refine Below.drew ?_) | (with_reducible refine below_drewN ?_ _) | (with_reducible refine Below.setCell ?_ ?_ _) | (with_reducible refine Below.trans ?_ (Below.mono (by assumption) ?_)) | omega | (simp; omega) | (simp; done)))); (have hq1_0 := fun o : Nat => hb1.cell (p := ⟨w.heap.size, o, none⟩) (by first | omega | (simp; done) | (simp; omega))); (have hf1_0 := fun o : Nat => hb1.frozen (p := ⟨w.heap.size, o, none⟩) (by first | omega | (simp; done) | (simp; omega))); (have hy1_0 : w.heap.size < w1.heap.size := by omega); (have hq1_1 := fun o : Nat => hb1.cell (p := ⟨w.heap.size + 1, o, none⟩) (by first | omega | (simp; done) | (simp; omega))); (have hf1_1 := fun o : Nat => hb1.frozen (p := ⟨w.heap.size + 1, o, none⟩) (by first | omega | (simp; done) | (simp; omega))); (have hy1_1 : w.heap.size + 1 < w1.heap.size := by omega); (have hq1_2 := fun o : Nat => hb1.cell (p := ⟨w.heap.size + 1 + 1, o, none⟩) (by first | omega | (simp; done) | (simp; omega))); (have hf1_2 := fun o : Nat => hb1.frozen (p := ⟨w.heap.size + 1 + 1, o, none⟩) (by first | omega | (simp; done) | (simp; omega))); (have hy1_2 : w.heap.size + 1 + 1 < w1.heap.size := by omega); clear hb1)
      refine bodyPost_ret (v := .tuple #[.agg #[.int .i64 (-travel), .int .i64 (is + rate)], .nilIface]) ?_ rfl ⟨by rw [E1.out, E2.out]; rfl, by (repeat' (first | (with_reducible exact Below.refl _ _) | (with_reducible assumption) | (with_reducible refine Below.alloc ?_ ?_ _) | (with_reducible refine Below.drew ?_) | (with_reducible refine below_drewN ?_ _) | (with_reducible refine Below.setCell ?_ ?_ _) | (with_reducible refine Below.trans ?_ (Below.mono (by assumption) ?_)) | omega | (simp; omega) | (simp; done)))⟩
      simp [results, Try.results52, go_sem, hq1_2]
    · exfalso; omega
  · have E1 := Lib.hid e1
    clear e1
    rcases c2 with ⟨c2, e2⟩ | ⟨c2, e2⟩
    · have E2 := Lib.hid e2
      clear e2
      go_enter Try.func52, Try.ntmps52
      go_wp2_with (go_at_call 57; ((with_reducible refine (actCheck _ _ _ _ _ _ _ _).mono ?_); rintro e w1 ⟨rfl, hb1⟩; have hz1 := hb1.size; (try simp only [World.size_alloc] at hz1); have hB1 : Below w.heap.size w w1 := by (repeat' (first | (with_reducible exact Below.refl _ _) | (with_reducible assumption) | (with_reducible refine Below.alloc ?_ ?_ _) | (with_reducible refine Below.drew ?_) | (with_reducible refine below_drewN ?_ _) | (with_reducible refine Below.setCell ?_ ?_ _) | (with_reducible refine Below.trans ?_ (Below.mono (by assumption) ?_)) | omega | (simp; omega) | (simp; done)))); (have hq1_0 := fun o : Nat => hb1.cell (p := ⟨w.heap.size, o, none⟩) (by first | omega | (simp; done) | (simp; omega))); (have hf1_0 := fun o : Nat => hb1.frozen (p := ⟨w.heap.size, o, none⟩) (by first | omega | (simp; done) | (simp; omega))); (have hy1_0 : w.heap.size < w1.heap.size := by omega); (have hq1_1 := fun o : Nat => hb1.cell (p := ⟨w.heap.size + 1, o, none⟩) (by first | omega | (simp; done) | (simp; omega))); (have hf1_1 := fun o : Nat => hb1.frozen (p := ⟨w.heap.size + 1, o, none⟩) (by first | omega | (simp; done) | (simp; omega))); (have hy1_1 : w.heap.size + 1 < w1.heap.size := by omega); (have hq1_2 := fun o : Nat => hb1.cell (p := ⟨w.heap.size + 1 + 1, o, none⟩) (by first | omega | (simp; done) | (simp; omega))); (have hf1_2 := fun o : Nat => hb1.frozen (p := ⟨w.heap.size + 1 + 1, o, none⟩) (by first | omega | (simp; done) | (simp; omega))); (have hy1_2 : w.heap.size + 1 + 1 < w1.heap.size := by omega); clear hb1)
      refine bodyPost_ret (v := .tuple #[.agg #[.int .i64 (is - rate), .int .i64 (is + rate)], .nilIface]) ?_ rfl ⟨by rw [E1.out, E2.out]; rfl, by (repeat' (first | (with_reducible exact Below.refl _ _) | (with_reducible assumption) | (with_reducible refine Below.alloc ?_ ?_ _) | (with_reducible refine Below.drew ?_) | (with_reducible refine below_drewN ?_ _) | (with_reducible refine Below.setCell ?_ ?_ _) | (with_reducible refine Below.trans ?_ (Below.mono (by assumption) ?_)) | omega | (simp; omega) | (simp; done)))⟩
      simp [results, Try.results52, go_sem, hq1_2]
    · have E2 := Lib.hid e2
      clear e2
      go_enter Try.func52, Try.ntmps52
      go_wp2_with (go_at_call 57; ((with_reducible refine (actCheck _ _ _ _ _ _ _ _).mono ?_); rintro e w1 ⟨rfl, hb1⟩; have hz1 := hb1.size; (try simp only [World.size_alloc] at hz1); have hB1 : Below w.heap.size w w1 := by (repeat' (first | (with_reducible exact Below.refl _ _) | (with_reducible assumption) | (with_reducible refine Below.alloc ?_ ?_ _) | (with_reducible refine Below.drew ?_) | (with_reducible refine below_drewN ?_ _) | (with_reducible refine Below.setCell ?_ ?_ _) | (with_reducible refine Below.trans ?_ (Below.mono (by assumption) ?_)) | omega | (simp; omega) | (simp; done)))); (have hq1_0 := fun o : Nat => hb1.cell (p := ⟨w.heap.size, o, none⟩) (by first | omega | (simp; done) | (simp; omega))); (have hf1_0 := fun o : Nat => hb1.frozen (p := ⟨w.heap.size, o, none⟩) (by first | omega | (simp; done) | (simp; omega))); (have hy1_0 : w.heap.size < w1.heap.size := by omega); (have hq1_1 := fun o : Nat => hb1.cell (p := ⟨w.heap.size + 1, o, none⟩) (by first | omega | (simp; done) | (simp; omega))); (have hf1_1 := fun o : Nat => hb1.frozen (p := ⟨w.heap.size + 1, o, none⟩) (by first | omega | (simp; done) | (simp; omega))); (have hy1_1 : w.heap.size + 1 < w1.heap.size := by omega); (have hq1_2 := fun o : Nat => hb1.cell (p := ⟨w.heap.size + 1 + 1, o, none⟩) (by first | omega | (simp; done) | (simp; omega))); (have hf1_2 := fun o : Nat => hb1.frozen (p := ⟨w.heap.size + 1 + 1, o, none⟩) (by first | omega | (simp; done) | (simp; omega))); (have hy1_2 : w.heap.size + 1 + 1 < w1.heap.size := by omega); clear hb1)
      refine bodyPost_ret (v := .tuple #[.agg #[.int .i64 (is - rate), .int .i64 (travel)], .nilIface]) ?_ rfl ⟨by rw [E1.out, E2.out]; rfl, by (repeat' (first | (with_reducible exact Below.refl _ _) | (with_reducible assumption) | (with_reducible refine Below.alloc ?_ ?_ _) | (with_reducible refine Below.drew ?_) | (with_reducible refine below_drewN ?_ _) | (with_reducible refine Below.setCell ?_ ?_ _) | (with_reducible refine Below.trans ?_ (Below.mono (by assumption) ?_)) | omega | (simp; omega) | (simp; done)))⟩
      simp [results, Try.results52, go_sem, hq1_2]
end Go.Proofs.Ytdfpenjhpemokaa
