/-
  Package act: Move.
-/
import Derived.Test.YtdfpenjhpemokaaAct5
set_option linter.unusedVariables false
set_option linter.unusedSimpArgs false
namespace Go.Proofs.Ytdfpenjhpemokaa
open Go.RowKit

theorem pclip_00 (x : Int) : pclip x 0 0 = 0 := by
  unfold pclip
  repeat' split
  all_goals omega

set_option maxHeartbeats 400000 in
theorem actMove_out (travel rate slack confirm is bad to : Int) (w : World) (h : pservo travel rate slack confirm is bad true = 0) :
    Calls Try.prog 53 #[.agg #[.int .i64 travel, .int .i64 rate, .int .i64 slack, .int .i64 confirm], .agg #[.int .i64 is, .int .i64 bad, .bool true], .int .i64 to] w fun e w' =>
    e = .returned (.tuple #[.agg #[.int .i64 0, .int .i64 bad, .bool true], errV 0]) ∧ Below w.heap.size w w' := by
  have hr2 : (pservo travel rate slack confirm is bad true != 0) = false := by rw [h]; rfl
  have H := Lib.hid h
  have hc : pclip to 0 0 = 0 := by exact pclip_00 to
  clear h
  go_enter Try.func53, Try.ntmps53
  go_wp2_with (first | (go_at_call 52; ((with_reducible refine (actReach_out _ _ _ _ _ _ _ H.out).mono ?_); rintro e w1 ⟨rfl, hb1⟩; have hz1 := hb1.size; (repeat (first | simp only [World.size_alloc] at hz1 | simp only [World.size_drew] at hz1 | simp only [World.size_setCell] at hz1)); have hB1 : Below w.heap.size w w1 := by (repeat' (first | (with_reducible exact Below.refl _ _) | (with_reducible assumption) | (with_reducible refine Below.alloc ?_ ?_ _) | (with_reducible refine Below.drew ?_) | (with_reducible refine below_drewN ?_ _) | (with_reducible refine Below.setCell ?_ ?_ _) | (with_reducible refine Below.trans ?_ (Below.mono (by assumption) ?_)) | omega | (simp; omega) | (simp; done)))); (have hq1_0 := fun o : Nat => hb1.cell (p := ⟨w.heap.size, o, none⟩) (by first | omega | (simp; done) | (simp; omega))); (have hf1_0 := fun o : Nat => hb1.frozen (p := ⟨w.heap.size, o, none⟩) (by first | omega | (simp; done) | (simp; omega))); (have hy1_0 : w.heap.size < w1.heap.size := by omega); (have hq1_1 := fun o : Nat => hb1.cell (p := ⟨w.heap.size + 1, o, none⟩) (by first | omega | (simp; done) | (simp; omega))); (have hf1_1 := fun o : Nat => hb1.frozen (p := ⟨w.heap.size + 1, o, none⟩) (by first | omega | (simp; done) | (simp; omega))); (have hy1_1 : w.heap.size + 1 < w1.heap.size := by omega); (have hq1_2 := fun o : Nat => hb1.cell (p := ⟨w.heap.size + 1 + 1, o, none⟩) (by first | omega | (simp; done) | (simp; omega))); (have hf1_2 := fun o : Nat => hb1.frozen (p := ⟨w.heap.size + 1 + 1, o, none⟩) (by first | omega | (simp; done) | (simp; omega))); (have hy1_2 : w.heap.size + 1 + 1 < w1.heap.size := by omega); clear hb1) | (go_at_call 133; ((with_reducible refine (fixClip _ _ _ _).mono ?_); rintro e w' ⟨rfl, rfl⟩)))
  refine bodyPost_ret (v := .tuple #[.agg #[.int .i64 0, .int .i64 bad, .bool true], .nilIface]) ?_ rfl ⟨rfl, by (repeat' (first | (with_reducible exact Below.refl _ _) | (with_reducible assumption) | (with_reducible refine Below.alloc ?_ ?_ _) | (with_reducible refine Below.drew ?_) | (with_reducible refine below_drewN ?_ _) | (with_reducible refine Below.setCell ?_ ?_ _) | (with_reducible refine Below.trans ?_ (Below.mono (by assumption) ?_)) | omega | (simp; omega) | (simp; done)))⟩
  simp [results, Try.results53, go_sem, hq1_2, hy1_2]

set_option maxHeartbeats 400000 in
theorem actMove_in (travel rate slack confirm is bad to : Int) (w : World) (h : pservo travel rate slack confirm is bad false = 0) :
    Calls Try.prog 53 #[.agg #[.int .i64 travel, .int .i64 rate, .int .i64 slack, .int .i64 confirm], .agg #[.int .i64 is, .int .i64 bad, .bool false], .int .i64 to] w fun e w' =>
    e = .returned (.tuple #[.agg #[.int .i64 (pclip to (prlo travel rate is) (prhi travel rate is)), .int .i64 bad, .bool false], errV 0]) ∧ Below w.heap.size w w' := by
  have hr2 : (pservo travel rate slack confirm is bad false != 0) = false := by rw [h]; rfl
  have H := Lib.hid h
  clear h
  obtain ⟨lo, hlo⟩ : ∃ lo, Hid (lo = prlo travel rate is) := ⟨_, rfl⟩
  obtain ⟨hi, hhi⟩ : ∃ hi, Hid (hi = prhi travel rate is) := ⟨_, rfl⟩
  go_enter Try.func53, Try.ntmps53
  go_wp2_with (first | (go_at_call 52; ((with_reducible refine (actReach_in _ _ _ _ _ _ lo hi _ H.out hlo hhi).mono ?_); rintro e w1 ⟨rfl, hb1⟩; have hz1 := hb1.size; (repeat (first | simp only [World.size_alloc] at hz1 | simp only [World.size_drew] at hz1 | simp only [World.size_setCell] at hz1)); have hB1 : Below w.heap.size w w1 := by (repeat' (first | (with_reducible exact Below.refl _ _) | (with_reducible assumption) | (with_reducible refine Below.alloc ?_ ?_ _) | (with_reducible refine Below.drew ?_) | (with_reducible refine below_drewN ?_ _) | (with_reducible refine Below.setCell ?_ ?_ _) | (with_reducible refine Below.trans ?_ (Below.mono (by assumption) ?_)) | omega | (simp; omega) | (simp; done)))); (have hq1_0 := fun o : Nat => hb1.cell (p := ⟨w.heap.size, o, none⟩) (by first | omega | (simp; done) | (simp; omega))); (have hf1_0 := fun o : Nat => hb1.frozen (p := ⟨w.heap.size, o, none⟩) (by first | omega | (simp; done) | (simp; omega))); (have hy1_0 : w.heap.size < w1.heap.size := by omega); (have hq1_1 := fun o : Nat => hb1.cell (p := ⟨w.heap.size + 1, o, none⟩) (by first | omega | (simp; done) | (simp; omega))); (have hf1_1 := fun o : Nat => hb1.frozen (p := ⟨w.heap.size + 1, o, none⟩) (by first | omega | (simp; done) | (simp; omega))); (have hy1_1 : w.heap.size + 1 < w1.heap.size := by omega); (have hq1_2 := fun o : Nat => hb1.cell (p := ⟨w.heap.size + 1 + 1, o, none⟩) (by first | omega | (simp; done) | (simp; omega))); (have hf1_2 := fun o : Nat => hb1.frozen (p := ⟨w.heap.size + 1 + 1, o, none⟩) (by first | omega | (simp; done) | (simp; omega))); (have hy1_2 : w.heap.size + 1 + 1 < w1.heap.size := by omega); clear hb1) | (go_at_call 133; ((with_reducible refine (fixClip _ _ _ _).mono ?_); rintro e w' ⟨rfl, rfl⟩)))
  refine bodyPost_ret (v := .tuple #[.agg #[.int .i64 (pclip to lo hi), .int .i64 bad, .bool false], .nilIface]) ?_ rfl ⟨by rw [hlo.out, hhi.out]; rfl, by (repeat' (first | (with_reducible exact Below.refl _ _) | (with_reducible assumption) | (with_reducible refine Below.alloc ?_ ?_ _) | (with_reducible refine Below.drew ?_) | (with_reducible refine below_drewN ?_ _) | (with_reducible refine Below.setCell ?_ ?_ _) | (with_reducible refine Below.trans ?_ (Below.mono (by assumption) ?_)) | omega | (simp; omega) | (simp; done)))⟩
  simp [results, Try.results53, go_sem, hq1_2, hy1_2]
end Go.Proofs.Ytdfpenjhpemokaa
