/-
  Package act: Watch.
-/
import Derived.Test.YtdfpenjhpemokaaAct2
import Derived.Deep.QuietTactic
import Derived.BigQuiet
import Derived.Deep.RegionHeld3
namespace Go.Proofs.Ytdfpenjhpemokaa
open Go.RowKit

set_option maxHeartbeats 400000 in
theorem actWatch_err (travel rate slack confirm is bad x : Int) (out there : Bool) (w : World) (h : ¬ pservo travel rate slack confirm is bad out = 0) :
    Calls Try.prog 54 #[.agg #[.int .i64 travel, .int .i64 rate, .int .i64 slack, .int .i64 confirm], .agg #[.int .i64 is, .int .i64 bad, .bool out], .agg #[.bool there, .int .i64 x]] w fun e w' =>
    e = .returned (.tuple #[.agg #[.int .i64 0, .int .i64 0, .bool false], errV (pservo travel rate slack confirm is bad out)]) ∧ Below w.heap.size w w' := by
  have hr2 : (pservo travel rate slack confirm is bad out != 0) = true := by simpa using h
  clear h
  go_enter Try.func54, Try.ntmps54
  go_wp2_with (go_at_call 57; ((with_reducible refine (actCheck _ _ _ _ _ _ _ _).mono ?_); rintro e w1 ⟨rfl, hb1⟩; have hz1 := hb1.size; (try simp only [World.size_alloc] at hz1); have hB1 : Below w.heap.size w w1 := by (repeat' (first | (with_reducible exact Below.refl _ _) | (with_reducible assumption) | (with_reducible refine Below.alloc ?_ ?_ _) | (with_reducible refine Below.drew ?_) | (with_reducible refine below_drewN ?_ _) | (with_reducible refine Below.setCell ?_ ?_ _) | (with_reducible refine Below.trans ?_ (Below.mono (by assumption) ?_)) | omega | (simp; omega) | (simp; done)))); (have hq1_0 := fun o : Nat => hb1.cell (p := ⟨w.heap.size, o, none⟩) (by first | omega | (simp; done) | (simp; omega))); (have hf1_0 := fun o : Nat => hb1.frozen (p := ⟨w.heap.size, o, none⟩) (by first | omega | (simp; done) | (simp; omega))); (have hy1_0 : w.heap.size < w1.heap.size := by omega); (have hq1_1 := fun o : Nat => hb1.cell (p := ⟨w.heap.size + 1, o, none⟩) (by first | omega | (simp; done) | (simp; omega))); (have hf1_1 := fun o : Nat => hb1.frozen (p := ⟨w.heap.size + 1, o, none⟩) (by first | omega | (simp; done) | (simp; omega))); (have hy1_1 : w.heap.size + 1 < w1.heap.size := by omega); (have hq1_2 := fun o : Nat => hb1.cell (p := ⟨w.heap.size + 1 + 1, o, none⟩) (by first | omega | (simp; done) | (simp; omega))); (have hf1_2 := fun o : Nat => hb1.frozen (p := ⟨w.heap.size + 1 + 1, o, none⟩) (by first | omega | (simp; done) | (simp; omega))); (have hy1_2 : w.heap.size + 1 + 1 < w1.heap.size := by omega); (have hq1_3 := fun o : Nat => hb1.cell (p := ⟨w.heap.size + 1 + 1 + 1, o, none⟩) (by first | omega | (simp; done) | (simp; omega))); (have hf1_3 := fun o : Nat => hb1.frozen (p := ⟨w.heap.size + 1 + 1 + 1, o, none⟩) (by first | omega | (simp; done) | (simp; omega))); (have hy1_3 : w.heap.size + 1 + 1 + 1 < w1.heap.size := by omega); clear hb1)
  refine bodyPost_ret (v := .tuple #[.agg #[.int .i64 0, .int .i64 0, .bool false], errV (pservo travel rate slack confirm is bad out)]) ?_ rfl ⟨rfl, by (repeat' (first | (with_reducible exact Below.refl _ _) | (with_reducible assumption) | (with_reducible refine Below.alloc ?_ ?_ _) | (with_reducible refine Below.drew ?_) | (with_reducible refine below_drewN ?_ _) | (with_reducible refine Below.setCell ?_ ?_ _) | (with_reducible refine Below.trans ?_ (Below.mono (by assumption) ?_)) | omega | (simp; omega) | (simp; done)))⟩
  simp [results, Try.results54, go_sem, hq1_3]

set_option maxHeartbeats 400000 in
theorem actWatch_out (travel rate slack confirm is bad x : Int) (there : Bool) (w : World) (h : pservo travel rate slack confirm is bad true = 0) :
    Calls Try.prog 54 #[.agg #[.int .i64 travel, .int .i64 rate, .int .i64 slack, .int .i64 confirm], .agg #[.int .i64 is, .int .i64 bad, .bool true], .agg #[.bool there, .int .i64 x]] w fun e w' =>
    e = .returned (.tuple #[.agg #[.int .i64 is, .int .i64 bad, .bool true], errV 0]) ∧ Below w.heap.size w w' := by
  have hr2 : (pservo travel rate slack confirm is bad true != 0) = false := by rw [h]; rfl
  clear h
  go_enter Try.func54, Try.ntmps54
  go_wp2_with (go_at_call 57; ((with_reducible refine (actCheck _ _ _ _ _ _ _ _).mono ?_); rintro e w1 ⟨rfl, hb1⟩; have hz1 := hb1.size; (try simp only [World.size_alloc] at hz1); have hB1 : Below w.heap.size w w1 := by (repeat' (first | (with_reducible exact Below.refl _ _) | (with_reducible assumption) | (with_reducible refine Below.alloc ?_ ?_ _) | (with_reducible refine Below.drew ?_) | (with_reducible refine below_drewN ?_ _) | (with_reducible refine Below.setCell ?_ ?_ _) | (with_reducible refine Below.trans ?_ (Below.mono (by assumption) ?_)) | omega | (simp; omega) | (simp; done)))); (have hq1_0 := fun o : Nat => hb1.cell (p := ⟨w.heap.size, o, none⟩) (by first | omega | (simp; done) | (simp; omega))); (have hf1_0 := fun o : Nat => hb1.frozen (p := ⟨w.heap.size, o, none⟩) (by first | omega | (simp; done) | (simp; omega))); (have hy1_0 : w.heap.size < w1.heap.size := by omega); (have hq1_1 := fun o : Nat => hb1.cell (p := ⟨w.heap.size + 1, o, none⟩) (by first | omega | (simp; done) | (simp; omega))); (have hf1_1 := fun o : Nat => hb1.frozen (p := ⟨w.heap.size + 1, o, none⟩) (by first | omega | (simp; done) | (simp; omega))); (have hy1_1 : w.heap.size + 1 < w1.heap.size := by omega); (have hq1_2 := fun o : Nat => hb1.cell (p := ⟨w.heap.size + 1 + 1, o, none⟩) (by first | omega | (simp; done) | (simp; omega))); (have hf1_2 := fun o : Nat => hb1.frozen (p := ⟨w.heap.size + 1 + 1, o, none⟩) (by first | omega | (simp; done) | (simp; omega))); (have hy1_2 : w.heap.size + 1 + 1 < w1.heap.size := by omega); (have hq1_3 := fun o : Nat => hb1.cell (p := ⟨w.heap.size + 1 + 1 + 1, o, none⟩) (by first | omega | (simp; done) | (simp; omega))); (have hf1_3 := fun o : Nat => hb1.frozen (p := ⟨w.heap.size + 1 + 1 + 1, o, none⟩) (by first | omega | (simp; done) | (simp; omega))); (have hy1_3 : w.heap.size + 1 + 1 + 1 < w1.heap.size := by omega); clear hb1)
  go_quiet (fail)
  go_wp2
  refine bodyPost_ret (v := .tuple #[.agg #[.int .i64 is, .int .i64 bad, .bool true], .nilIface]) ?_ rfl ⟨rfl, by (repeat' (first | (with_reducible exact Below.refl _ _) | (with_reducible assumption) | (with_reducible refine Below.alloc ?_ ?_ _) | (with_reducible refine Below.drew ?_) | (with_reducible refine below_drewN ?_ _) | (with_reducible refine Below.setCell ?_ ?_ _) | (with_reducible refine Below.trans ?_ (Below.mono (by assumption) ?_)) | omega | (simp; omega) | (simp; done)))⟩
  simp [results, Try.results54, go_sem, hq1_3]

set_option maxHeartbeats 400000 in
theorem actWatch_silent_y (travel rate slack confirm is bad x : Int) (w : World) (h : pservo travel rate slack confirm is bad false = 0) (hc : bad + 1 = confirm) :
    Calls Try.prog 54 #[.agg #[.int .i64 travel, .int .i64 rate, .int .i64 slack, .int .i64 confirm], .agg #[.int .i64 is, .int .i64 bad, .bool false], .agg #[.bool false, .int .i64 x]] w fun e w' =>
    e = .returned (.tuple #[.agg #[.int .i64 0, .int .i64 (bad + 1), .bool true], errV 0]) ∧ Below w.heap.size w w' := by
  have hr2 : (pservo travel rate slack confirm is bad false != 0) = false := by rw [h]; rfl
  obtain ⟨⟨a1, a2, a3, a4, a5, a6, a7, a8⟩, b1, b2, b3, b4, _, b6⟩ := pservo_0 h
  clear h b6
  have hcb : (bad + 1 == confirm) = true := by simpa using hc
  clear hc
  go_enter Try.func54, Try.ntmps54
  go_wp2_with (go_at_call 57; ((with_reducible refine (actCheck _ _ _ _ _ _ _ _).mono ?_); rintro e w1 ⟨rfl, hb1⟩; have hz1 := hb1.size; (try simp only [World.size_alloc] at hz1); have hB1 : Below w.heap.size w w1 := by (repeat' (first | (with_reducible exact Below.refl _ _) | (with_reducible assumption) | (with_reducible refine Below.alloc ?_ ?_ _) | (with_reducible refine Below.drew ?_) | (with_reducible refine below_drewN ?_ _) | (with_reducible refine Below.setCell ?_ ?_ _) | (with_reducible refine Below.trans ?_ (Below.mono (by assumption) ?_)) | omega | (simp; omega) | (simp; done)))); (have hq1_0 := fun o : Nat => hb1.cell (p := ⟨w.heap.size, o, none⟩) (by first | omega | (simp; done) | (simp; omega))); (have hf1_0 := fun o : Nat => hb1.frozen (p := ⟨w.heap.size, o, none⟩) (by first | omega | (simp; done) | (simp; omega))); (have hy1_0 : w.heap.size < w1.heap.size := by omega); (have hq1_1 := fun o : Nat => hb1.cell (p := ⟨w.heap.size + 1, o, none⟩) (by first | omega | (simp; done) | (simp; omega))); (have hf1_1 := fun o : Nat => hb1.frozen (p := ⟨w.heap.size + 1, o, none⟩) (by first | omega | (simp; done) | (simp; omega))); (have hy1_1 : w.heap.size + 1 < w1.heap.size := by omega); (have hq1_2 := fun o : Nat => hb1.cell (p := ⟨w.heap.size + 1 + 1, o, none⟩) (by first | omega | (simp; done) | (simp; omega))); (have hf1_2 := fun o : Nat => hb1.frozen (p := ⟨w.heap.size + 1 + 1, o, none⟩) (by first | omega | (simp; done) | (simp; omega))); (have hy1_2 : w.heap.size + 1 + 1 < w1.heap.size := by omega); (have hq1_3 := fun o : Nat => hb1.cell (p := ⟨w.heap.size + 1 + 1 + 1, o, none⟩) (by first | omega | (simp; done) | (simp; omega))); (have hf1_3 := fun o : Nat => hb1.frozen (p := ⟨w.heap.size + 1 + 1 + 1, o, none⟩) (by first | omega | (simp; done) | (simp; omega))); (have hy1_3 : w.heap.size + 1 + 1 + 1 < w1.heap.size := by omega); clear hb1)
  go_quiet (fail)
  go_wp2
  refine bodyPost_ret (v := .tuple #[.agg #[.int .i64 0, .int .i64 (bad + 1), .bool true], .nilIface]) ?_ rfl ⟨rfl, by (repeat' (first | (with_reducible exact Below.refl _ _) | (with_reducible assumption) | (with_reducible refine Below.alloc ?_ ?_ _) | (with_reducible refine Below.drew ?_) | (with_reducible refine below_drewN ?_ _) | (with_reducible refine Below.setCell ?_ ?_ _) | (with_reducible refine Below.trans ?_ (Below.mono (by assumption) ?_)) | omega | (simp; omega) | (simp; done)))⟩
  simp [results, Try.results54, go_sem, hq1_3]

set_option maxHeartbeats 400000 in
theorem actWatch_silent_n (travel rate slack confirm is bad x : Int) (w : World) (h : pservo travel rate slack confirm is bad false = 0) (hc : ¬ bad + 1 = confirm) :
    Calls Try.prog 54 #[.agg #[.int .i64 travel, .int .i64 rate, .int .i64 slack, .int .i64 confirm], .agg #[.int .i64 is, .int .i64 bad, .bool false], .agg #[.bool false, .int .i64 x]] w fun e w' =>
    e = .returned (.tuple #[.agg #[.int .i64 is, .int .i64 (bad + 1), .bool false], errV 0]) ∧ Below w.heap.size w w' := by
  have hr2 : (pservo travel rate slack confirm is bad false != 0) = false := by rw [h]; rfl
  obtain ⟨⟨a1, a2, a3, a4, a5, a6, a7, a8⟩, b1, b2, b3, b4, _, b6⟩ := pservo_0 h
  clear h b6
  have hcb : (bad + 1 == confirm) = false := by simpa using hc
  clear hc
  go_enter Try.func54, Try.ntmps54
  go_wp2_with (go_at_call 57; ((with_reducible refine (actCheck _ _ _ _ _ _ _ _).mono ?_); rintro e w1 ⟨rfl, hb1⟩; have hz1 := hb1.size; (try simp only [World.size_alloc] at hz1); have hB1 : Below w.heap.size w w1 := by (repeat' (first | (with_reducible exact Below.refl _ _) | (with_reducible assumption) | (with_reducible refine Below.alloc ?_ ?_ _) | (with_reducible refine Below.drew ?_) | (with_reducible refine below_drewN ?_ _) | (with_reducible refine Below.setCell ?_ ?_ _) | (with_reducible refine Below.trans ?_ (Below.mono (by assumption) ?_)) | omega | (simp; omega) | (simp; done)))); (have hq1_0 := fun o : Nat => hb1.cell (p := ⟨w.heap.size, o, none⟩) (by first | omega | (simp; done) | (simp; omega))); (have hf1_0 := fun o : Nat => hb1.frozen (p := ⟨w.heap.size, o, none⟩) (by first | omega | (simp; done) | (simp; omega))); (have hy1_0 : w.heap.size < w1.heap.size := by omega); (have hq1_1 := fun o : Nat => hb1.cell (p := ⟨w.heap.size + 1, o, none⟩) (by first | omega | (simp; done) | (simp; omega))); (have hf1_1 := fun o : Nat => hb1.frozen (p := ⟨w.heap.size + 1, o, none⟩) (by first | omega | (simp; done) | (simp; omega))); (have hy1_1 : w.heap.size + 1 < w1.heap.size := by omega); (have hq1_2 := fun o : Nat => hb1.cell (p := ⟨w.heap.size + 1 + 1, o, none⟩) (by first | omega | (simp; done) | (simp; omega))); (have hf1_2 := fun o : Nat => hb1.frozen (p := ⟨w.heap.size + 1 + 1, o, none⟩) (by first | omega | (simp; done) | (simp; omega))); (have hy1_2 : w.heap.size + 1 + 1 < w1.heap.size := by omega); (have hq1_3 := fun o : Nat => hb1.cell (p := ⟨w.heap.size + 1 + 1 + 1, o, none⟩) (by first | omega | (simp; done) | (simp; omega))); (have hf1_3 := fun o : Nat => hb1.frozen (p := ⟨w.heap.size + 1 + 1 + 1, o, none⟩) (by first | omega | (simp; done) | (simp; omega))); (have hy1_3 : w.heap.size + 1 + 1 + 1 < w1.heap.size := by omega); clear hb1)
  go_quiet (fail)
  go_wp2
  refine bodyPost_ret (v := .tuple #[.agg #[.int .i64 is, .int .i64 (bad + 1), .bool false], .nilIface]) ?_ rfl ⟨rfl, by (repeat' (first | (with_reducible exact Below.refl _ _) | (with_reducible assumption) | (with_reducible refine Below.alloc ?_ ?_ _) | (with_reducible refine Below.drew ?_) | (with_reducible refine below_drewN ?_ _) | (with_reducible refine Below.setCell ?_ ?_ _) | (with_reducible refine Below.trans ?_ (Below.mono (by assumption) ?_)) | omega | (simp; omega) | (simp; done)))⟩
  simp [results, Try.results54, go_sem, hq1_3]

set_option maxHeartbeats 400000 in
theorem actWatch_in (travel rate slack confirm is bad x : Int) (w : World) (h : pservo travel rate slack confirm is bad false = 0) (hx : is - slack ≤ x) (hx2 : x ≤ is + slack) :
    Calls Try.prog 54 #[.agg #[.int .i64 travel, .int .i64 rate, .int .i64 slack, .int .i64 confirm], .agg #[.int .i64 is, .int .i64 bad, .bool false], .agg #[.bool true, .int .i64 x]] w fun e w' =>
    e = .returned (.tuple #[.agg #[.int .i64 is, .int .i64 bad, .bool false], errV 0]) ∧ Below w.heap.size w w' := by
  have hr2 : (pservo travel rate slack confirm is bad false != 0) = false := by rw [h]; rfl
  obtain ⟨⟨a1, a2, a3, a4, a5, a6, a7, a8⟩, b1, b2, b3, b4, _, b6⟩ := pservo_0 h
  clear h b6
  go_enter Try.func54, Try.ntmps54
  go_wp2_with (go_at_call 57; ((with_reducible refine (actCheck _ _ _ _ _ _ _ _).mono ?_); rintro e w1 ⟨rfl, hb1⟩; have hz1 := hb1.size; (try simp only [World.size_alloc] at hz1); have hB1 : Below w.heap.size w w1 := by (repeat' (first | (with_reducible exact Below.refl _ _) | (with_reducible assumption) | (with_reducible refine Below.alloc ?_ ?_ _) | (with_reducible refine Below.drew ?_) | (with_reducible refine below_drewN ?_ _) | (with_reducible refine Below.setCell ?_ ?_ _) | (with_reducible refine Below.trans ?_ (Below.mono (by assumption) ?_)) | omega | (simp; omega) | (simp; done)))); (have hq1_0 := fun o : Nat => hb1.cell (p := ⟨w.heap.size, o, none⟩) (by first | omega | (simp; done) | (simp; omega))); (have hf1_0 := fun o : Nat => hb1.frozen (p := ⟨w.heap.size, o, none⟩) (by first | omega | (simp; done) | (simp; omega))); (have hy1_0 : w.heap.size < w1.heap.size := by omega); (have hq1_1 := fun o : Nat => hb1.cell (p := ⟨w.heap.size + 1, o, none⟩) (by first | omega | (simp; done) | (simp; omega))); (have hf1_1 := fun o : Nat => hb1.frozen (p := ⟨w.heap.size + 1, o, none⟩) (by first | omega | (simp; done) | (simp; omega))); (have hy1_1 : w.heap.size + 1 < w1.heap.size := by omega); (have hq1_2 := fun o : Nat => hb1.cell (p := ⟨w.heap.size + 1 + 1, o, none⟩) (by first | omega | (simp; done) | (simp; omega))); (have hf1_2 := fun o : Nat => hb1.frozen (p := ⟨w.heap.size + 1 + 1, o, none⟩) (by first | omega | (simp; done) | (simp; omega))); (have hy1_2 : w.heap.size + 1 + 1 < w1.heap.size := by omega); (have hq1_3 := fun o : Nat => hb1.cell (p := ⟨w.heap.size + 1 + 1 + 1, o, none⟩) (by first | omega | (simp; done) | (simp; omega))); (have hf1_3 := fun o : Nat => hb1.frozen (p := ⟨w.heap.size + 1 + 1 + 1, o, none⟩) (by first | omega | (simp; done) | (simp; omega))); (have hy1_3 : w.heap.size + 1 + 1 + 1 < w1.heap.size := by omega); clear hb1)
  have e1 : IntKind.i64.wrap (is - slack) = is - slack := IntWalk.i64_in _ (by omega)
  have e2 : IntKind.i64.wrap (is + slack) = is + slack := IntWalk.i64_in _ (by omega)
  have hs1 : w1.cell? ⟨w.heap.size + 1, 0, none⟩ = some (.int .i64 is) := by go_simp
  have hs2 : w1.cell? ⟨w.heap.size + 1, 2, none⟩ = some (.bool false) := by go_simp
  have hs3 : w1.cell? ⟨w.heap.size, 2, none⟩ = some (.int .i64 slack) := by go_simp
  have hs4 : w1.cell? ⟨w.heap.size + 1 + 1, 0, none⟩ = some (.bool true) := by go_simp
  have hs5 : w1.cell? ⟨w.heap.size + 1 + 1, 1, none⟩ = some (.int .i64 x) := by go_simp
  have hcl : pclip x (-2000000) 2000000 = x := pclip_id _ _ _ (by omega) (by omega)
  go_region_held3 (fun w' => w'.cell? ⟨w.heap.size + 1, 0, none⟩ = some (.int .i64 is) ∧ w'.cell? ⟨w.heap.size + 1, 2, none⟩ = some (.bool false) ∧ w'.cell? ⟨w.heap.size, 2, none⟩ = some (.int .i64 slack) ∧ w'.cell? ⟨w.heap.size + 1 + 1, 0, none⟩ = some (.bool true) ∧ w'.cell? ⟨w.heap.size + 1 + 1, 1, none⟩ = some (.int .i64 x)) (first | (refine ⟨?_, ?_, ?_, ?_, ?_⟩ <;> (repeat' (first | (with_reducible assumption) | (with_reducible refine cell_alloc_keep ?_) | (with_reducible refine cell_drew_keep ?_) | (with_reducible refine cell_drewN_keep ?_) | (with_reducible refine cell_set_keep ?_ ?_) | (simp; omega))) <;> done) | go_keep)
    (first | (go_at_call 133; refine (fixClip _ _ _ _).mono ?_; rintro e w' ⟨rfl, rfl⟩) | (go_at_call 46; refine (fixIn _ _ _ _).mono ?_; rintro e w' ⟨rfl, rfl⟩))

  go_wp2
  refine bodyPost_ret (v := .tuple #[.agg #[.int .i64 is, .int .i64 bad, .bool false], .nilIface]) ?_ rfl ⟨rfl, by (repeat' (first | (with_reducible exact Below.refl _ _) | (with_reducible assumption) | (with_reducible refine Below.alloc ?_ ?_ _) | (with_reducible refine Below.drew ?_) | (with_reducible refine below_drewN ?_ _) | (with_reducible refine Below.setCell ?_ ?_ _) | (with_reducible refine Below.trans ?_ (Below.mono (by assumption) ?_)) | omega | (simp; omega) | (simp; done)))⟩
  simp [results, Try.results54, go_sem, hq1_3, hy1_3]

set_option maxHeartbeats 400000 in
theorem actWatch_off_y (travel rate slack confirm is bad x : Int) (w : World) (h : pservo travel rate slack confirm is bad false = 0) (hx : x < is - slack ∨ is + slack < x) (hc : bad + 1 = confirm) :
    Calls Try.prog 54 #[.agg #[.int .i64 travel, .int .i64 rate, .int .i64 slack, .int .i64 confirm], .agg #[.int .i64 is, .int .i64 bad, .bool false], .agg #[.bool true, .int .i64 x]] w fun e w' =>
    e = .returned (.tuple #[.agg #[.int .i64 0, .int .i64 (bad + 1), .bool true], errV 0]) ∧ Below w.heap.size w w' := by
  have hr2 : (pservo travel rate slack confirm is bad false != 0) = false := by rw [h]; rfl
  obtain ⟨⟨a1, a2, a3, a4, a5, a6, a7, a8⟩, b1, b2, b3, b4, _, b6⟩ := pservo_0 h
  clear h b6
  have hcb : (bad + 1 == confirm) = true := by simpa using hc
  clear hc
  have hd : (decide (is - slack ≤ pclip x (-2000000) 2000000) && decide (pclip x (-2000000) 2000000 ≤ is + slack)) = false := by
    have hx' : pclip x (-2000000) 2000000 < is - slack ∨ is + slack < pclip x (-2000000) 2000000 := by
      unfold pclip
      repeat' split
      all_goals omega
    rcases hx' with hx | hx
    · rw [decide_eq_false (by omega : ¬ is - slack ≤ pclip x (-2000000) 2000000)]; rfl
    · rw [decide_eq_false (by omega : ¬ pclip x (-2000000) 2000000 ≤ is + slack), Bool.and_false]
  clear hx
  go_enter Try.func54, Try.ntmps54
  go_wp2_with (go_at_call 57; ((with_reducible refine (actCheck _ _ _ _ _ _ _ _).mono ?_); rintro e w1 ⟨rfl, hb1⟩; have hz1 := hb1.size; (try simp only [World.size_alloc] at hz1); have hB1 : Below w.heap.size w w1 := by (repeat' (first | (with_reducible exact Below.refl _ _) | (with_reducible assumption) | (with_reducible refine Below.alloc ?_ ?_ _) | (with_reducible refine Below.drew ?_) | (with_reducible refine below_drewN ?_ _) | (with_reducible refine Below.setCell ?_ ?_ _) | (with_reducible refine Below.trans ?_ (Below.mono (by assumption) ?_)) | omega | (simp; omega) | (simp; done)))); (have hq1_0 := fun o : Nat => hb1.cell (p := ⟨w.heap.size, o, none⟩) (by first | omega | (simp; done) | (simp; omega))); (have hf1_0 := fun o : Nat => hb1.frozen (p := ⟨w.heap.size, o, none⟩) (by first | omega | (simp; done) | (simp; omega))); (have hy1_0 : w.heap.size < w1.heap.size := by omega); (have hq1_1 := fun o : Nat => hb1.cell (p := ⟨w.heap.size + 1, o, none⟩) (by first | omega | (simp; done) | (simp; omega))); (have hf1_1 := fun o : Nat => hb1.frozen (p := ⟨w.heap.size + 1, o, none⟩) (by first | omega | (simp; done) | (simp; omega))); (have hy1_1 : w.heap.size + 1 < w1.heap.size := by omega); (have hq1_2 := fun o : Nat => hb1.cell (p := ⟨w.heap.size + 1 + 1, o, none⟩) (by first | omega | (simp; done) | (simp; omega))); (have hf1_2 := fun o : Nat => hb1.frozen (p := ⟨w.heap.size + 1 + 1, o, none⟩) (by first | omega | (simp; done) | (simp; omega))); (have hy1_2 : w.heap.size + 1 + 1 < w1.heap.size := by omega); (have hq1_3 := fun o : Nat => hb1.cell (p := ⟨w.heap.size + 1 + 1 + 1, o, none⟩) (by first | omega | (simp; done) | (simp; omega))); (have hf1_3 := fun o : Nat => hb1.frozen (p := ⟨w.heap.size + 1 + 1 + 1, o, none⟩) (by first | omega | (simp; done) | (simp; omega))); (have hy1_3 : w.heap.size + 1 + 1 + 1 < w1.heap.size := by omega); clear hb1)
  have e1 : IntKind.i64.wrap (is - slack) = is - slack := IntWalk.i64_in _ (by omega)
  have e2 : IntKind.i64.wrap (is + slack) = is + slack := IntWalk.i64_in _ (by omega)
  have hs1 : w1.cell? ⟨w.heap.size + 1, 0, none⟩ = some (.int .i64 is) := by go_simp
  have hs2 : w1.cell? ⟨w.heap.size + 1, 2, none⟩ = some (.bool false) := by go_simp
  have hs3 : w1.cell? ⟨w.heap.size, 2, none⟩ = some (.int .i64 slack) := by go_simp
  have hs4 : w1.cell? ⟨w.heap.size + 1 + 1, 0, none⟩ = some (.bool true) := by go_simp
  have hs5 : w1.cell? ⟨w.heap.size + 1 + 1, 1, none⟩ = some (.int .i64 x) := by go_simp
  go_region_held3 (fun w' => w'.cell? ⟨w.heap.size + 1, 0, none⟩ = some (.int .i64 is) ∧ w'.cell? ⟨w.heap.size + 1, 2, none⟩ = some (.bool false) ∧ w'.cell? ⟨w.heap.size, 2, none⟩ = some (.int .i64 slack) ∧ w'.cell? ⟨w.heap.size + 1 + 1, 0, none⟩ = some (.bool true) ∧ w'.cell? ⟨w.heap.size + 1 + 1, 1, none⟩ = some (.int .i64 x)) (first | (refine ⟨?_, ?_, ?_, ?_, ?_⟩ <;> (repeat' (first | (with_reducible assumption) | (with_reducible refine cell_alloc_keep ?_) | (with_reducible refine cell_drew_keep ?_) | (with_reducible refine cell_drewN_keep ?_) | (with_reducible refine cell_set_keep ?_ ?_) | (simp; omega))) <;> done) | go_keep)
    (first | (go_at_call 133; refine (fixClip _ _ _ _).mono ?_; rintro e w' ⟨rfl, rfl⟩) | (go_at_call 46; refine (fixIn _ _ _ _).mono ?_; rintro e w' ⟨rfl, rfl⟩))

  go_wp2
  refine bodyPost_ret (v := .tuple #[.agg #[.int .i64 0, .int .i64 (bad + 1), .bool true], .nilIface]) ?_ rfl ⟨rfl, by (repeat' (first | (with_reducible exact Below.refl _ _) | (with_reducible assumption) | (with_reducible refine Below.alloc ?_ ?_ _) | (with_reducible refine Below.drew ?_) | (with_reducible refine below_drewN ?_ _) | (with_reducible refine Below.setCell ?_ ?_ _) | (with_reducible refine Below.trans ?_ (Below.mono (by assumption) ?_)) | omega | (simp; omega) | (simp; done)))⟩
  simp [results, Try.results54, go_sem, hq1_3, hy1_3]

set_option maxHeartbeats 400000 in
theorem actWatch_off_n (travel rate slack confirm is bad x : Int) (w : World) (h : pservo travel rate slack confirm is bad false = 0) (hx : x < is - slack ∨ is + slack < x) (hc : ¬ bad + 1 = confirm) :
    Calls Try.prog 54 #[.agg #[.int .i64 travel, .int .i64 rate, .int .i64 slack, .int .i64 confirm], .agg #[.int .i64 is, .int .i64 bad, .bool false], .agg #[.bool true, .int .i64 x]] w fun e w' =>
    e = .returned (.tuple #[.agg #[.int .i64 is, .int .i64 (bad + 1), .bool false], errV 0]) ∧ Below w.heap.size w w' := by
  have hr2 : (pservo travel rate slack confirm is bad false != 0) = false := by rw [h]; rfl
  obtain ⟨⟨a1, a2, a3, a4, a5, a6, a7, a8⟩, b1, b2, b3, b4, _, b6⟩ := pservo_0 h
  clear h b6
  have hcb : (bad + 1 == confirm) = false := by simpa using hc
  clear hc
  have hd : (decide (is - slack ≤ pclip x (-2000000) 2000000) && decide (pclip x (-2000000) 2000000 ≤ is + slack)) = false := by
    have hx' : pclip x (-2000000) 2000000 < is - slack ∨ is + slack < pclip x (-2000000) 2000000 := by
      unfold pclip
      repeat' split
      all_goals omega
    rcases hx' with hx | hx
    · rw [decide_eq_false (by omega : ¬ is - slack ≤ pclip x (-2000000) 2000000)]; rfl
    · rw [decide_eq_false (by omega : ¬ pclip x (-2000000) 2000000 ≤ is + slack), Bool.and_false]
  clear hx
  go_enter Try.func54, Try.ntmps54
  go_wp2_with (go_at_call 57; ((with_reducible refine (actCheck _ _ _ _ _ _ _ _).mono ?_); rintro e w1 ⟨rfl, hb1⟩; have hz1 := hb1.size; (try simp only [World.size_alloc] at hz1); have hB1 : Below w.heap.size w w1 := by (repeat' (first | (with_reducible exact Below.refl _ _) | (with_reducible assumption) | (with_reducible refine Below.alloc ?_ ?_ _) | (with_reducible refine Below.drew ?_) | (with_reducible refine below_drewN ?_ _) | (with_reducible refine Below.setCell ?_ ?_ _) | (with_reducible refine Below.trans ?_ (Below.mono (by assumption) ?_)) | omega | (simp; omega) | (simp; done)))); (have hq1_0 := fun o : Nat => hb1.cell (p := ⟨w.heap.size, o, none⟩) (by first | omega | (simp; done) | (simp; omega))); (have hf1_0 := fun o : Nat => hb1.frozen (p := ⟨w.heap.size, o, none⟩) (by first | omega | (simp; done) | (simp; omega))); (have hy1_0 : w.heap.size < w1.heap.size := by omega); (have hq1_1 := fun o : Nat => hb1.cell (p := ⟨w.heap.size + 1, o, none⟩) (by first | omega | (simp; done) | (simp; omega))); (have hf1_1 := fun o : Nat => hb1.frozen (p := ⟨w.heap.size + 1, o, none⟩) (by first | omega | (simp; done) | (simp; omega))); (have hy1_1 : w.heap.size + 1 < w1.heap.size := by omega); (have hq1_2 := fun o : Nat => hb1.cell (p := ⟨w.heap.size + 1 + 1, o, none⟩) (by first | omega | (simp; done) | (simp; omega))); (have hf1_2 := fun o : Nat => hb1.frozen (p := ⟨w.heap.size + 1 + 1, o, none⟩) (by first | omega | (simp; done) | (simp; omega))); (have hy1_2 : w.heap.size + 1 + 1 < w1.heap.size := by omega); (have hq1_3 := fun o : Nat => hb1.cell (p := ⟨w.heap.size + 1 + 1 + 1, o, none⟩) (by first | omega | (simp; done) | (simp; omega))); (have hf1_3 := fun o : Nat => hb1.frozen (p := ⟨w.heap.size + 1 + 1 + 1, o, none⟩) (by first | omega | (simp; done) | (simp; omega))); (have hy1_3 : w.heap.size + 1 + 1 + 1 < w1.heap.size := by omega); clear hb1)
  have e1 : IntKind.i64.wrap (is - slack) = is - slack := IntWalk.i64_in _ (by omega)
  have e2 : IntKind.i64.wrap (is + slack) = is + slack := IntWalk.i64_in _ (by omega)
  have hs1 : w1.cell? ⟨w.heap.size + 1, 0, none⟩ = some (.int .i64 is) := by go_simp
  have hs2 : w1.cell? ⟨w.heap.size + 1, 2, none⟩ = some (.bool false) := by go_simp
  have hs3 : w1.cell? ⟨w.heap.size, 2, none⟩ = some (.int .i64 slack) := by go_simp
  have hs4 : w1.cell? ⟨w.heap.size + 1 + 1, 0, none⟩ = some (.bool true) := by go_simp
  have hs5 : w1.cell? ⟨w.heap.size + 1 + 1, 1, none⟩ = some (.int .i64 x) := by go_simp
  go_region_held3 (fun w' => w'.cell? ⟨w.heap.size + 1, 0, none⟩ = some (.int .i64 is) ∧ w'.cell? ⟨w.heap.size + 1, 2, none⟩ = some (.bool false) ∧ w'.cell? ⟨w.heap.size, 2, none⟩ = some (.int .i64 slack) ∧ w'.cell? ⟨w.heap.size + 1 + 1, 0, none⟩ = some (.bool true) ∧ w'.cell? ⟨w.heap.size + 1 + 1, 1, none⟩ = some (.int .i64 x)) (first | (refine ⟨?_, ?_, ?_, ?_, ?_⟩ <;> (repeat' (first | (with_reducible assumption) | (with_reducible refine cell_alloc_keep ?_) | (with_reducible refine cell_drew_keep ?_) | (with_reducible refine cell_drewN_keep ?_) | (with_reducible refine cell_set_keep ?_ ?_) | (simp; omega))) <;> done) | go_keep)
    (first | (go_at_call 133; refine (fixClip _ _ _ _).mono ?_; rintro e w' ⟨rfl, rfl⟩) | (go_at_call 46; refine (fixIn _ _ _ _).mono ?_; rintro e w' ⟨rfl, rfl⟩))

  go_wp2
  refine bodyPost_ret (v := .tuple #[.agg #[.int .i64 is, .int .i64 (bad + 1), .bool false], .nilIface]) ?_ rfl ⟨rfl, by (repeat' (first | (with_reducible exact Below.refl _ _) | (with_reducible assumption) | (with_reducible refine Below.alloc ?_ ?_ _) | (with_reducible refine Below.drew ?_) | (with_reducible refine below_drewN ?_ _) | (with_reducible refine Below.setCell ?_ ?_ _) | (with_reducible refine Below.trans ?_ (Below.mono (by assumption) ?_)) | omega | (simp; omega) | (simp; done)))⟩
  simp [results, Try.results54, go_sem, hq1_3, hy1_3]

end Go.Proofs.Ytdfpenjhpemokaa
