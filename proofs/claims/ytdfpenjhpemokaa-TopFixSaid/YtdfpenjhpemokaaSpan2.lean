/-
  Spans: both, SpanAdd, SpanMul.
-/
import Derived.Test.YtdfpenjhpemokaaSpan
namespace Go.Proofs.Ytdfpenjhpemokaa
open Go.RowKit
theorem span_ix0 (a b c d : Value) (w : World) : (Instr.index 248 (.agg #[a, b, c, d]) (.int .i64 0)).run Try.prog w = .ok (.agg #[a, b]) w := by kernel_rfl
theorem span_ix1 (a b c d : Value) (w : World) : (Instr.index 248 (.agg #[a, b, c, d]) (.int .i64 1)).run Try.prog w = .ok (.agg #[c, d]) w := by kernel_rfl
/-- Three numbers, by place. -/
def three (x y z : Int) (i : Nat) : Int := [x, y, z][i]?.getD 0
theorem cells3f (w : World) (x y z : Int) (t : TypeId) (b : Nat) (hb : b = w.heap.size) : ∀ i, i < 3 → (w.alloc (.cells #[.int .i64 x, .int .i64 y, .int .i64 z] t)).cell? ⟨b, i, none⟩ = some (.int .i64 (three x y z i)) := fun i hi => cells3 w x y z t (0, 0) b hb i hi
theorem cells3d (w : World) (x y z : Int) (t : TypeId) (b : Nat) (hb : b = w.heap.size) : ∀ i, i < 3 → ((w.alloc (.cells #[.int .i64 x, .int .i64 y, .int .i64 z] t)).drew).cell? ⟨b, i, none⟩ = some (.int .i64 (three x y z i)) := cells3f w x y z t b hb
theorem fixCheck_is (a b k : Int) (w : World) (h : Unit → pspan a b = k) : Calls Try.prog 45 #[.agg #[.int .i64 a, .int .i64 b]] w fun e w' => e = .returned (errV k) ∧ w.alloc (.cells #[.int .i64 a, .int .i64 b] 41) = w' := by
  rw [← h ()]; exact fixCheck a b w
/-- The sum of two. -/
def psum2 (x y : Int) : Int := pof (pof x + pof y)
theorem padd_two (x y : Int) : padd [x, y] = psum2 x y := by
  have h := pof_id (pof x) (pof_lo x) (pof_hi x)
  simp [padd, psum2, h]
theorem spanAddF (x y : Int) (w : World) : Calls Try.prog 131 #[.int .i64 x, .int .i64 y] w fun e w' => e = .returned (.int .i64 (psum2 x y)) ∧ w.alloc (.cells #[.int .i64 x, .int .i64 y] 3) = w' := by
  have hp := Lib.hid (padd_two x y)
  go_enter Try.func131, Try.ntmps131
  go_wp2_with (go_at_call 67; ((with_reducible refine (fixAdd _ _ [_, _] 2 _ rfl (by omega) (cells2 _ _ _ _ _ _ (by simp))).mono ?_); rintro e w' ⟨rfl, rfl⟩))
  go_ret
  exact ⟨ret_int hp.out, rfl⟩

set_option maxHeartbeats 1000000 in
set_option maxRecDepth 100000 in
theorem bothMul_ok (a b c d : Int) (w : World) (k1 : Unit → pspan a b = 0) (k2 : Unit → pspan c d = 0) : Calls Try.prog 130 #[.agg #[.int .i64 a, .int .i64 b], .agg #[.int .i64 c, .int .i64 d], .func (Fn.func 68) #[] #[]] w fun e w' => e = .returned (.tuple #[.agg #[.int .i64 (hmin (pmul a c) (three (pmul a d) (pmul b c) (pmul b d)) 3), .int .i64 (hmax (pmul a c) (three (pmul a d) (pmul b c) (pmul b d)) 3)], errV 0]) ∧ Below w.heap.size w w' := by
  have i0 := span_ix0
  have i1 := span_ix1
  go_enter Try.func130, Try.ntmps130
  go_wp2_with fail
  refine wp_loop_rounds 3 ?_
  rw [rounds_succ]
  go_wp2_with (first | (go_at_call 45; ((with_reducible refine (fixCheck_is _ _ 0 _ k1).mono ?_); rintro e w' ⟨rfl, rfl⟩)) | (go_at_call 45; ((with_reducible refine (fixCheck_is _ _ 0 _ k2).mono ?_); rintro e w' ⟨rfl, rfl⟩)) | (go_at_call 68; ((with_reducible refine (fixMul _ _ _).mono ?_); rintro e w' ⟨rfl, rfl⟩)))
  rw [rounds_succ]
  go_wp2_with (first | (go_at_call 45; ((with_reducible refine (fixCheck_is _ _ 0 _ k1).mono ?_); rintro e w' ⟨rfl, rfl⟩)) | (go_at_call 45; ((with_reducible refine (fixCheck_is _ _ 0 _ k2).mono ?_); rintro e w' ⟨rfl, rfl⟩)) | (go_at_call 68; ((with_reducible refine (fixMul _ _ _).mono ?_); rintro e w' ⟨rfl, rfl⟩)))
  rw [rounds_succ]
  go_wp2_with (first | (go_at_call 68; ((with_reducible refine (fixMul _ _ _).mono ?_); rintro e w' ⟨rfl, rfl⟩)))
  refine wp_world (fun ω => Below w.heap.size w ω ∧ w.heap.size < ω.heap.size ∧ (∀ o, ω.frozen? ⟨w.heap.size, o, none⟩ = false) ∧ ω.cell? ⟨w.heap.size, 0, none⟩ = some (.int .i64 a) ∧ ω.cell? ⟨w.heap.size, 1, none⟩ = some (.int .i64 b) ∧ w.heap.size + 1 < ω.heap.size ∧ (∀ o, ω.frozen? ⟨w.heap.size + 1, o, none⟩ = false) ∧ ω.cell? ⟨w.heap.size + 1, 0, none⟩ = some (.int .i64 c) ∧ ω.cell? ⟨w.heap.size + 1, 1, none⟩ = some (.int .i64 d) ∧ w.heap.size + 1 + 1 < ω.heap.size ∧ (∀ o, ω.frozen? ⟨w.heap.size + 1 + 1, o, none⟩ = false) ∧ ω.cell? ⟨w.heap.size + 1 + 1, 0, none⟩ = some (.int .i64 0) ∧ ω.cell? ⟨w.heap.size + 1 + 1, 1, none⟩ = some (.int .i64 0)) ⟨by (repeat' (first | (with_reducible exact Below.refl _ _) | (with_reducible assumption) | (with_reducible refine Below.alloc ?_ ?_ _) | (with_reducible refine Below.drew ?_) | (with_reducible refine below_drewN ?_ _) | (with_reducible refine Below.setCell ?_ ?_ _) | (with_reducible refine Below.trans ?_ (Below.mono (by assumption) ?_)) | omega | (simp; omega) | (simp; done))), ?_, ?_, ?_, ?_, ?_, ?_, ?_, ?_, ?_, ?_, ?_, ?_⟩ ?_
  · (first | omega | ((repeat (first | simp only [World.size_alloc] | simp only [World.size_drew] | simp only [World.size_setCell])); omega) | (simp; done) | (simp; omega))
  · (intro o; repeat' (first | (with_reducible assumption) | ((with_reducible refine frozen_new ?_); (first | rfl | (simp; done))) | ((with_reducible refine frozen_alloc_keep ?_ ?_); (focus (first | (simp; done) | (simp; omega)))) | (with_reducible refine frozen_drew_keep ?_) | (with_reducible refine frozen_drewN_keep ?_) | (with_reducible refine frozen_set_keep ?_) | (with_reducible refine frozen_below (by assumption) (by first | omega | (simp; done) | (simp; omega)) ?_) | (go_simp; done)))
  · (repeat' (first | (with_reducible assumption) | ((with_reducible refine cell_new ?_ ?_) <;> (first | rfl | (simp; done))) | (with_reducible refine cell_alloc_keep ?_) | (with_reducible refine cell_drew_keep ?_) | (with_reducible refine cell_drewN_keep ?_) | (with_reducible refine cell_set_same' ?_) | (with_reducible refine cell_set_ne ?_ (by first | (simp; done) | (simp; omega))) | (with_reducible refine cell_below (by assumption) (by first | omega | (simp; done) | (simp; omega)) ?_) | (go_simp; done)))
  · (repeat' (first | (with_reducible assumption) | ((with_reducible refine cell_new ?_ ?_) <;> (first | rfl | (simp; done))) | (with_reducible refine cell_alloc_keep ?_) | (with_reducible refine cell_drew_keep ?_) | (with_reducible refine cell_drewN_keep ?_) | (with_reducible refine cell_set_same' ?_) | (with_reducible refine cell_set_ne ?_ (by first | (simp; done) | (simp; omega))) | (with_reducible refine cell_below (by assumption) (by first | omega | (simp; done) | (simp; omega)) ?_) | (go_simp; done)))
  · (first | omega | ((repeat (first | simp only [World.size_alloc] | simp only [World.size_drew] | simp only [World.size_setCell])); omega) | (simp; done) | (simp; omega))
  · (intro o; repeat' (first | (with_reducible assumption) | ((with_reducible refine frozen_new ?_); (first | rfl | (simp; done))) | ((with_reducible refine frozen_alloc_keep ?_ ?_); (focus (first | (simp; done) | (simp; omega)))) | (with_reducible refine frozen_drew_keep ?_) | (with_reducible refine frozen_drewN_keep ?_) | (with_reducible refine frozen_set_keep ?_) | (with_reducible refine frozen_below (by assumption) (by first | omega | (simp; done) | (simp; omega)) ?_) | (go_simp; done)))
  · (repeat' (first | (with_reducible assumption) | ((with_reducible refine cell_new ?_ ?_) <;> (first | rfl | (simp; done))) | (with_reducible refine cell_alloc_keep ?_) | (with_reducible refine cell_drew_keep ?_) | (with_reducible refine cell_drewN_keep ?_) | (with_reducible refine cell_set_same' ?_) | (with_reducible refine cell_set_ne ?_ (by first | (simp; done) | (simp; omega))) | (with_reducible refine cell_below (by assumption) (by first | omega | (simp; done) | (simp; omega)) ?_) | (go_simp; done)))
  · (repeat' (first | (with_reducible assumption) | ((with_reducible refine cell_new ?_ ?_) <;> (first | rfl | (simp; done))) | (with_reducible refine cell_alloc_keep ?_) | (with_reducible refine cell_drew_keep ?_) | (with_reducible refine cell_drewN_keep ?_) | (with_reducible refine cell_set_same' ?_) | (with_reducible refine cell_set_ne ?_ (by first | (simp; done) | (simp; omega))) | (with_reducible refine cell_below (by assumption) (by first | omega | (simp; done) | (simp; omega)) ?_) | (go_simp; done)))
  · (first | omega | ((repeat (first | simp only [World.size_alloc] | simp only [World.size_drew] | simp only [World.size_setCell])); omega) | (simp; done) | (simp; omega))
  · (intro o; repeat' (first | (with_reducible assumption) | ((with_reducible refine frozen_new ?_); (first | rfl | (simp; done))) | ((with_reducible refine frozen_alloc_keep ?_ ?_); (focus (first | (simp; done) | (simp; omega)))) | (with_reducible refine frozen_drew_keep ?_) | (with_reducible refine frozen_drewN_keep ?_) | (with_reducible refine frozen_set_keep ?_) | (with_reducible refine frozen_below (by assumption) (by first | omega | (simp; done) | (simp; omega)) ?_) | (go_simp; done)))
  · (repeat' (first | (with_reducible assumption) | ((with_reducible refine cell_new ?_ ?_) <;> (first | rfl | (simp; done))) | (with_reducible refine cell_alloc_keep ?_) | (with_reducible refine cell_drew_keep ?_) | (with_reducible refine cell_drewN_keep ?_) | (with_reducible refine cell_set_same' ?_) | (with_reducible refine cell_set_ne ?_ (by first | (simp; done) | (simp; omega))) | (with_reducible refine cell_below (by assumption) (by first | omega | (simp; done) | (simp; omega)) ?_) | (go_simp; done)))
  · (repeat' (first | (with_reducible assumption) | ((with_reducible refine cell_new ?_ ?_) <;> (first | rfl | (simp; done))) | (with_reducible refine cell_alloc_keep ?_) | (with_reducible refine cell_drew_keep ?_) | (with_reducible refine cell_drewN_keep ?_) | (with_reducible refine cell_set_same' ?_) | (with_reducible refine cell_set_ne ?_ (by first | (simp; done) | (simp; omega))) | (with_reducible refine cell_below (by assumption) (by first | omega | (simp; done) | (simp; omega)) ?_) | (go_simp; done)))
  rintro w1 ⟨hB1, hy1_0, hf1_0, hc1_0_0, hc1_0_1, hy1_1, hf1_1, hc1_1_0, hc1_1_1, hy1_2, hf1_2, hc1_2_0, hc1_2_1⟩
  go_region_held3 (fun ω => ω.cell? ⟨w.heap.size, 0, none⟩ = some (.int .i64 a) ∧ ω.cell? ⟨w.heap.size, 1, none⟩ = some (.int .i64 b) ∧ ω.cell? ⟨w.heap.size + 1, 0, none⟩ = some (.int .i64 c) ∧ ω.cell? ⟨w.heap.size + 1, 1, none⟩ = some (.int .i64 d)) (first | (refine ⟨?_, ?_, ?_, ?_⟩ <;> (repeat' (first | (with_reducible assumption) | (with_reducible refine cell_alloc_keep ?_) | (with_reducible refine cell_drew_keep ?_) | (with_reducible refine cell_drewN_keep ?_) | (with_reducible refine cell_set_keep ?_ ?_) | (with_reducible refine cell_below (by assumption) ?_ ?_) | omega | (simp; done) | (simp; omega))) <;> done) | go_keep) (first | (go_at_call 68; ((with_reducible refine (fixMul _ _ _).mono ?_); rintro e w' ⟨rfl, rfl⟩)) | (go_at_call 161; ((with_reducible refine (fixHull _ _ (three _ _ _) _ 3 _ _ (by omega) (by simp) (cells3d _ _ _ _ _ _ (by simp))).mono ?_); rintro e w2 ⟨rfl, hb2⟩; have hz2 := hb2.size; (repeat (first | simp only [World.size_alloc] at hz2 | simp only [World.size_drew] at hz2 | simp only [World.size_setCell] at hz2))); (have hq2_2 := fun o : Nat => hb2.cell (p := ⟨w.heap.size + 1 + 1, o, none⟩) (by first | omega | (simp; done) | (simp; omega))); (have hf2_2 := fun o : Nat => hb2.frozen (p := ⟨w.heap.size + 1 + 1, o, none⟩) (by first | omega | (simp; done) | (simp; omega))); (have hy2_2 : w.heap.size + 1 + 1 < w2.heap.size := by omega)))
  have g0 : w2.cell? ⟨w.heap.size + 1 + 1, 0, none⟩ = some (.int .i64 0) := by go_simp
  have g1 : w2.cell? ⟨w.heap.size + 1 + 1, 1, none⟩ = some (.int .i64 0) := by go_simp
  go_wp2
  refine bodyPost_ret (v := .tuple #[.agg #[.int .i64 (hmin (pmul a c) (three (pmul a d) (pmul b c) (pmul b d)) 3), .int .i64 (hmax (pmul a c) (three (pmul a d) (pmul b c) (pmul b d)) 3)], errV 0]) ?_ rfl ⟨rfl, by (repeat' (first | (with_reducible exact Below.refl _ _) | (with_reducible assumption) | (with_reducible refine Below.alloc ?_ ?_ _) | (with_reducible refine Below.drew ?_) | (with_reducible refine below_drewN ?_ _) | (with_reducible refine Below.setCell ?_ ?_ _) | (with_reducible refine Below.trans ?_ (Below.mono (by assumption) ?_)) | omega | (simp; omega) | (simp; done)))⟩
  simp [results, Try.results130, go_sem, g0, g1, errV_0]
set_option maxHeartbeats 1000000 in
set_option maxRecDepth 100000 in
theorem bothAdd_ok (a b c d : Int) (w : World) (k1 : Unit → pspan a b = 0) (k2 : Unit → pspan c d = 0) : Calls Try.prog 130 #[.agg #[.int .i64 a, .int .i64 b], .agg #[.int .i64 c, .int .i64 d], .func (Fn.func 131) #[] #[]] w fun e w' => e = .returned (.tuple #[.agg #[.int .i64 (hmin (psum2 a c) (three (psum2 a d) (psum2 b c) (psum2 b d)) 3), .int .i64 (hmax (psum2 a c) (three (psum2 a d) (psum2 b c) (psum2 b d)) 3)], errV 0]) ∧ Below w.heap.size w w' := by
  have i0 := span_ix0
  have i1 := span_ix1
  go_enter Try.func130, Try.ntmps130
  go_wp2_with fail
  refine wp_loop_rounds 3 ?_
  rw [rounds_succ]
  go_wp2_with (first | (go_at_call 45; ((with_reducible refine (fixCheck_is _ _ 0 _ k1).mono ?_); rintro e w' ⟨rfl, rfl⟩)) | (go_at_call 45; ((with_reducible refine (fixCheck_is _ _ 0 _ k2).mono ?_); rintro e w' ⟨rfl, rfl⟩)) | (go_at_call 131; ((with_reducible refine (spanAddF _ _ _).mono ?_); rintro e w' ⟨rfl, rfl⟩)))
  rw [rounds_succ]
  go_wp2_with (first | (go_at_call 45; ((with_reducible refine (fixCheck_is _ _ 0 _ k1).mono ?_); rintro e w' ⟨rfl, rfl⟩)) | (go_at_call 45; ((with_reducible refine (fixCheck_is _ _ 0 _ k2).mono ?_); rintro e w' ⟨rfl, rfl⟩)) | (go_at_call 131; ((with_reducible refine (spanAddF _ _ _).mono ?_); rintro e w' ⟨rfl, rfl⟩)))
  rw [rounds_succ]
  go_wp2_with (first | (go_at_call 131; ((with_reducible refine (spanAddF _ _ _).mono ?_); rintro e w' ⟨rfl, rfl⟩)))
  refine wp_world (fun ω => Below w.heap.size w ω ∧ w.heap.size < ω.heap.size ∧ (∀ o, ω.frozen? ⟨w.heap.size, o, none⟩ = false) ∧ ω.cell? ⟨w.heap.size, 0, none⟩ = some (.int .i64 a) ∧ ω.cell? ⟨w.heap.size, 1, none⟩ = some (.int .i64 b) ∧ w.heap.size + 1 < ω.heap.size ∧ (∀ o, ω.frozen? ⟨w.heap.size + 1, o, none⟩ = false) ∧ ω.cell? ⟨w.heap.size + 1, 0, none⟩ = some (.int .i64 c) ∧ ω.cell? ⟨w.heap.size + 1, 1, none⟩ = some (.int .i64 d) ∧ w.heap.size + 1 + 1 < ω.heap.size ∧ (∀ o, ω.frozen? ⟨w.heap.size + 1 + 1, o, none⟩ = false) ∧ ω.cell? ⟨w.heap.size + 1 + 1, 0, none⟩ = some (.int .i64 0) ∧ ω.cell? ⟨w.heap.size + 1 + 1, 1, none⟩ = some (.int .i64 0)) ⟨by (repeat' (first | (with_reducible exact Below.refl _ _) | (with_reducible assumption) | (with_reducible refine Below.alloc ?_ ?_ _) | (with_reducible refine Below.drew ?_) | (with_reducible refine below_drewN ?_ _) | (with_reducible refine Below.setCell ?_ ?_ _) | (with_reducible refine Below.trans ?_ (Below.mono (by assumption) ?_)) | omega | (simp; omega) | (simp; done))), ?_, ?_, ?_, ?_, ?_, ?_, ?_, ?_, ?_, ?_, ?_, ?_⟩ ?_
  · (first | omega | ((repeat (first | simp only [World.size_alloc] | simp only [World.size_drew] | simp only [World.size_setCell])); omega) | (simp; done) | (simp; omega))
  · (intro o; repeat' (first | (with_reducible assumption) | ((with_reducible refine frozen_new ?_); (first | rfl | (simp; done))) | ((with_reducible refine frozen_alloc_keep ?_ ?_); (focus (first | (simp; done) | (simp; omega)))) | (with_reducible refine frozen_drew_keep ?_) | (with_reducible refine frozen_drewN_keep ?_) | (with_reducible refine frozen_set_keep ?_) | (with_reducible refine frozen_below (by assumption) (by first | omega | (simp; done) | (simp; omega)) ?_) | (go_simp; done)))
  · (repeat' (first | (with_reducible assumption) | ((with_reducible refine cell_new ?_ ?_) <;> (first | rfl | (simp; done))) | (with_reducible refine cell_alloc_keep ?_) | (with_reducible refine cell_drew_keep ?_) | (with_reducible refine cell_drewN_keep ?_) | (with_reducible refine cell_set_same' ?_) | (with_reducible refine cell_set_ne ?_ (by first | (simp; done) | (simp; omega))) | (with_reducible refine cell_below (by assumption) (by first | omega | (simp; done) | (simp; omega)) ?_) | (go_simp; done)))
  · (repeat' (first | (with_reducible assumption) | ((with_reducible refine cell_new ?_ ?_) <;> (first | rfl | (simp; done))) | (with_reducible refine cell_alloc_keep ?_) | (with_reducible refine cell_drew_keep ?_) | (with_reducible refine cell_drewN_keep ?_) | (with_reducible refine cell_set_same' ?_) | (with_reducible refine cell_set_ne ?_ (by first | (simp; done) | (simp; omega))) | (with_reducible refine cell_below (by assumption) (by first | omega | (simp; done) | (simp; omega)) ?_) | (go_simp; done)))
  · (first | omega | ((repeat (first | simp only [World.size_alloc] | simp only [World.size_drew] | simp only [World.size_setCell])); omega) | (simp; done) | (simp; omega))
  · (intro o; repeat' (first | (with_reducible assumption) | ((with_reducible refine frozen_new ?_); (first | rfl | (simp; done))) | ((with_reducible refine frozen_alloc_keep ?_ ?_); (focus (first | (simp; done) | (simp; omega)))) | (with_reducible refine frozen_drew_keep ?_) | (with_reducible refine frozen_drewN_keep ?_) | (with_reducible refine frozen_set_keep ?_) | (with_reducible refine frozen_below (by assumption) (by first | omega | (simp; done) | (simp; omega)) ?_) | (go_simp; done)))
  · (repeat' (first | (with_reducible assumption) | ((with_reducible refine cell_new ?_ ?_) <;> (first | rfl | (simp; done))) | (with_reducible refine cell_alloc_keep ?_) | (with_reducible refine cell_drew_keep ?_) | (with_reducible refine cell_drewN_keep ?_) | (with_reducible refine cell_set_same' ?_) | (with_reducible refine cell_set_ne ?_ (by first | (simp; done) | (simp; omega))) | (with_reducible refine cell_below (by assumption) (by first | omega | (simp; done) | (simp; omega)) ?_) | (go_simp; done)))
  · (repeat' (first | (with_reducible assumption) | ((with_reducible refine cell_new ?_ ?_) <;> (first | rfl | (simp; done))) | (with_reducible refine cell_alloc_keep ?_) | (with_reducible refine cell_drew_keep ?_) | (with_reducible refine cell_drewN_keep ?_) | (with_reducible refine cell_set_same' ?_) | (with_reducible refine cell_set_ne ?_ (by first | (simp; done) | (simp; omega))) | (with_reducible refine cell_below (by assumption) (by first | omega | (simp; done) | (simp; omega)) ?_) | (go_simp; done)))
  · (first | omega | ((repeat (first | simp only [World.size_alloc] | simp only [World.size_drew] | simp only [World.size_setCell])); omega) | (simp; done) | (simp; omega))
  · (intro o; repeat' (first | (with_reducible assumption) | ((with_reducible refine frozen_new ?_); (first | rfl | (simp; done))) | ((with_reducible refine frozen_alloc_keep ?_ ?_); (focus (first | (simp; done) | (simp; omega)))) | (with_reducible refine frozen_drew_keep ?_) | (with_reducible refine frozen_drewN_keep ?_) | (with_reducible refine frozen_set_keep ?_) | (with_reducible refine frozen_below (by assumption) (by first | omega | (simp; done) | (simp; omega)) ?_) | (go_simp; done)))
  · (repeat' (first | (with_reducible assumption) | ((with_reducible refine cell_new ?_ ?_) <;> (first | rfl | (simp; done))) | (with_reducible refine cell_alloc_keep ?_) | (with_reducible refine cell_drew_keep ?_) | (with_reducible refine cell_drewN_keep ?_) | (with_reducible refine cell_set_same' ?_) | (with_reducible refine cell_set_ne ?_ (by first | (simp; done) | (simp; omega))) | (with_reducible refine cell_below (by assumption) (by first | omega | (simp; done) | (simp; omega)) ?_) | (go_simp; done)))
  · (repeat' (first | (with_reducible assumption) | ((with_reducible refine cell_new ?_ ?_) <;> (first | rfl | (simp; done))) | (with_reducible refine cell_alloc_keep ?_) | (with_reducible refine cell_drew_keep ?_) | (with_reducible refine cell_drewN_keep ?_) | (with_reducible refine cell_set_same' ?_) | (with_reducible refine cell_set_ne ?_ (by first | (simp; done) | (simp; omega))) | (with_reducible refine cell_below (by assumption) (by first | omega | (simp; done) | (simp; omega)) ?_) | (go_simp; done)))
  rintro w1 ⟨hB1, hy1_0, hf1_0, hc1_0_0, hc1_0_1, hy1_1, hf1_1, hc1_1_0, hc1_1_1, hy1_2, hf1_2, hc1_2_0, hc1_2_1⟩
  go_region_held3 (fun ω => ω.cell? ⟨w.heap.size, 0, none⟩ = some (.int .i64 a) ∧ ω.cell? ⟨w.heap.size, 1, none⟩ = some (.int .i64 b) ∧ ω.cell? ⟨w.heap.size + 1, 0, none⟩ = some (.int .i64 c) ∧ ω.cell? ⟨w.heap.size + 1, 1, none⟩ = some (.int .i64 d)) (first | (refine ⟨?_, ?_, ?_, ?_⟩ <;> (repeat' (first | (with_reducible assumption) | (with_reducible refine cell_alloc_keep ?_) | (with_reducible refine cell_drew_keep ?_) | (with_reducible refine cell_drewN_keep ?_) | (with_reducible refine cell_set_keep ?_ ?_) | (with_reducible refine cell_below (by assumption) ?_ ?_) | omega | (simp; done) | (simp; omega))) <;> done) | go_keep) (first | (go_at_call 131; ((with_reducible refine (spanAddF _ _ _).mono ?_); rintro e w' ⟨rfl, rfl⟩)) | (go_at_call 161; ((with_reducible refine (fixHull _ _ (three _ _ _) _ 3 _ _ (by omega) (by simp) (cells3d _ _ _ _ _ _ (by simp))).mono ?_); rintro e w2 ⟨rfl, hb2⟩; have hz2 := hb2.size; (repeat (first | simp only [World.size_alloc] at hz2 | simp only [World.size_drew] at hz2 | simp only [World.size_setCell] at hz2))); (have hq2_2 := fun o : Nat => hb2.cell (p := ⟨w.heap.size + 1 + 1, o, none⟩) (by first | omega | (simp; done) | (simp; omega))); (have hf2_2 := fun o : Nat => hb2.frozen (p := ⟨w.heap.size + 1 + 1, o, none⟩) (by first | omega | (simp; done) | (simp; omega))); (have hy2_2 : w.heap.size + 1 + 1 < w2.heap.size := by omega)))
  have g0 : w2.cell? ⟨w.heap.size + 1 + 1, 0, none⟩ = some (.int .i64 0) := by go_simp
  have g1 : w2.cell? ⟨w.heap.size + 1 + 1, 1, none⟩ = some (.int .i64 0) := by go_simp
  go_wp2
  refine bodyPost_ret (v := .tuple #[.agg #[.int .i64 (hmin (psum2 a c) (three (psum2 a d) (psum2 b c) (psum2 b d)) 3), .int .i64 (hmax (psum2 a c) (three (psum2 a d) (psum2 b c) (psum2 b d)) 3)], errV 0]) ?_ rfl ⟨rfl, by (repeat' (first | (with_reducible exact Below.refl _ _) | (with_reducible assumption) | (with_reducible refine Below.alloc ?_ ?_ _) | (with_reducible refine Below.drew ?_) | (with_reducible refine below_drewN ?_ _) | (with_reducible refine Below.setCell ?_ ?_ _) | (with_reducible refine Below.trans ?_ (Below.mono (by assumption) ?_)) | omega | (simp; omega) | (simp; done)))⟩
  simp [results, Try.results130, go_sem, g0, g1, errV_0]

set_option maxHeartbeats 400000 in
set_option maxRecDepth 100000 in
theorem both_err1 (a b c d k : Int) (f : Fn) (w : World) (k1 : Unit → pspan a b = k) (hk : k ≠ 0) : Calls Try.prog 130 #[.agg #[.int .i64 a, .int .i64 b], .agg #[.int .i64 c, .int .i64 d], .func f #[] #[]] w fun e w' => e = .returned (.tuple #[.agg #[.int .i64 0, .int .i64 0], errV k]) ∧ Below w.heap.size w w' := by
  have i0 := span_ix0
  have hk2 : (k != 0) = true := by simpa using hk
  clear hk
  go_enter Try.func130, Try.ntmps130
  go_wp2_with fail
  refine wp_loop_rounds 1 ?_
  rw [rounds_succ]
  go_wp2_with (first | (go_at_call 45; ((with_reducible refine (fixCheck_is _ _ k _ k1).mono ?_); rintro e w' ⟨rfl, rfl⟩)))
  refine bodyPost_ret (v := .tuple #[.agg #[.int .i64 0, .int .i64 0], errV k]) ?_ rfl ⟨rfl, by (repeat' (first | (with_reducible exact Below.refl _ _) | (with_reducible assumption) | (with_reducible refine Below.alloc ?_ ?_ _) | (with_reducible refine Below.drew ?_) | (with_reducible refine below_drewN ?_ _) | (with_reducible refine Below.setCell ?_ ?_ _) | (with_reducible refine Below.trans ?_ (Below.mono (by assumption) ?_)) | omega | (simp; omega) | (simp; done)))⟩
  simp [results, Try.results130, go_sem]

set_option maxHeartbeats 400000 in
set_option maxRecDepth 100000 in
theorem both_err2 (a b c d k : Int) (f : Fn) (w : World) (k1 : Unit → pspan a b = 0) (k2 : Unit → pspan c d = k) (hk : k ≠ 0) : Calls Try.prog 130 #[.agg #[.int .i64 a, .int .i64 b], .agg #[.int .i64 c, .int .i64 d], .func f #[] #[]] w fun e w' => e = .returned (.tuple #[.agg #[.int .i64 0, .int .i64 0], errV k]) ∧ Below w.heap.size w w' := by
  have i0 := span_ix0
  have i1 := span_ix1
  have hk2 : (k != 0) = true := by simpa using hk
  clear hk
  go_enter Try.func130, Try.ntmps130
  go_wp2_with fail
  refine wp_loop_rounds 2 ?_
  rw [rounds_succ]
  go_wp2_with (first | (go_at_call 45; ((with_reducible refine (fixCheck_is _ _ 0 _ k1).mono ?_); rintro e w' ⟨rfl, rfl⟩)))
  rw [rounds_succ]
  go_wp2_with (first | (go_at_call 45; ((with_reducible refine (fixCheck_is _ _ k _ k2).mono ?_); rintro e w' ⟨rfl, rfl⟩)))
  refine bodyPost_ret (v := .tuple #[.agg #[.int .i64 0, .int .i64 0], errV k]) ?_ rfl ⟨rfl, by (repeat' (first | (with_reducible exact Below.refl _ _) | (with_reducible assumption) | (with_reducible refine Below.alloc ?_ ?_ _) | (with_reducible refine Below.drew ?_) | (with_reducible refine below_drewN ?_ _) | (with_reducible refine Below.setCell ?_ ?_ _) | (with_reducible refine Below.trans ?_ (Below.mono (by assumption) ?_)) | omega | (simp; omega) | (simp; done)))⟩
  simp [results, Try.results130, go_sem]
end Go.Proofs.Ytdfpenjhpemokaa
