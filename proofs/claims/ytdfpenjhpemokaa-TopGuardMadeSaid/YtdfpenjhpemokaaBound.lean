/-
  The guard's bounds walked: highest, Bounds, Clamp; the reference's highest and Bounds.
-/
import Derived.Test.YtdfpenjhpemokaaBoundPl
import Derived.Test.YtdfpenjhpemokaaGuard5
import Derived.Test.YtdfpenjhpemokaaKit
import Derived.Deep.DeepCutAuto
set_option linter.unusedVariables false
set_option linter.unusedSimpArgs false
namespace Go.Proofs.Ytdfpenjhpemokaa
open Go.RowKit

set_option maxHeartbeats 400000 in
theorem guardHighest (lo hi noise push most rate l h room : Int) (w : World) (hr : 1 ≤ rate) (hr2 : rate ≤ 4000) (h0 : -8000 ≤ l) (h1 : l ≤ h) (h2 : h ≤ 4000) (hp : 0 ≤ push) (hp2 : push ≤ 2000) (r : Int) (q : Unit → phigh push rate l h room = r) :
    Calls Try.prog 137 #[.agg #[.int .i64 lo, .int .i64 hi, .int .i64 noise, .int .i64 push, .int .i64 most, .int .i64 rate], .int .i64 l, .int .i64 h, .int .i64 room] w fun e w' => e = .returned (.int .i64 r) ∧ Below w.heap.size w w' := by
  go_enter Try.func137, Try.ntmps137
  go_wp2_with fail
  refine wp_world (fun ω => Below w.heap.size w ω ∧ w.heap.size < ω.heap.size ∧ (∀ o, ω.frozen? ⟨w.heap.size, o, none⟩ = false) ∧ ω.cell? ⟨w.heap.size, 0, none⟩ = some (.int .i64 lo) ∧ ω.cell? ⟨w.heap.size, 1, none⟩ = some (.int .i64 hi) ∧ ω.cell? ⟨w.heap.size, 2, none⟩ = some (.int .i64 noise) ∧ ω.cell? ⟨w.heap.size, 3, none⟩ = some (.int .i64 push) ∧ ω.cell? ⟨w.heap.size, 4, none⟩ = some (.int .i64 most) ∧ ω.cell? ⟨w.heap.size, 5, none⟩ = some (.int .i64 rate)) ⟨by (repeat' (first | (with_reducible exact Below.refl _ _) | (with_reducible assumption) | (with_reducible refine Below.alloc ?_ ?_ _) | (with_reducible refine Below.drew ?_) | (with_reducible refine below_drewN ?_ _) | (with_reducible refine Below.setCell ?_ ?_ _) | (with_reducible refine Below.trans ?_ (Below.mono (by assumption) ?_)) | omega | (simp; omega) | (simp; done))), ?_, ?_, ?_, ?_, ?_, ?_, ?_, ?_⟩ ?_
  · (first | omega | ((repeat (first | simp only [World.size_alloc] | simp only [World.size_drew] | simp only [World.size_setCell])); omega) | (simp; done) | (simp; omega))
  · (intro o; repeat' (first | (with_reducible assumption) | ((with_reducible refine frozen_new ?_); (first | rfl | (simp; done))) | ((with_reducible refine frozen_alloc_keep ?_ ?_); (focus (first | (simp; done) | (simp; omega)))) | (with_reducible refine frozen_drew_keep ?_) | (with_reducible refine frozen_drewN_keep ?_) | (with_reducible refine frozen_set_keep ?_) | (with_reducible refine frozen_below (by assumption) (by first | omega | (simp; done) | (simp; omega)) ?_) | (go_simp; done)))
  · (repeat' (first | (with_reducible assumption) | ((with_reducible refine cell_new ?_ ?_) <;> (first | rfl | (simp; done))) | (with_reducible refine cell_alloc_keep ?_) | (with_reducible refine cell_drew_keep ?_) | (with_reducible refine cell_drewN_keep ?_) | (with_reducible refine cell_set_here ?_) | (with_reducible refine has_set ?_) | (with_reducible refine has_alloc ?_) | (with_reducible refine has_drew ?_) | (with_reducible exact has_of (by with_reducible assumption)) | ((with_reducible refine cell_set_off ?_ ?_); (focus decide)) | ((with_reducible refine cell_set_blk ?_ ?_); (focus (first | (with_reducible assumption) | (simp; done)))) | (with_reducible refine cell_set_ne ?_ (by first | (simp; done) | (simp; omega))) | (with_reducible refine cell_below (by assumption) (by first | omega | (simp; done) | (simp; omega)) ?_) | (go_simp; done)))
  · (repeat' (first | (with_reducible assumption) | ((with_reducible refine cell_new ?_ ?_) <;> (first | rfl | (simp; done))) | (with_reducible refine cell_alloc_keep ?_) | (with_reducible refine cell_drew_keep ?_) | (with_reducible refine cell_drewN_keep ?_) | (with_reducible refine cell_set_here ?_) | (with_reducible refine has_set ?_) | (with_reducible refine has_alloc ?_) | (with_reducible refine has_drew ?_) | (with_reducible exact has_of (by with_reducible assumption)) | ((with_reducible refine cell_set_off ?_ ?_); (focus decide)) | ((with_reducible refine cell_set_blk ?_ ?_); (focus (first | (with_reducible assumption) | (simp; done)))) | (with_reducible refine cell_set_ne ?_ (by first | (simp; done) | (simp; omega))) | (with_reducible refine cell_below (by assumption) (by first | omega | (simp; done) | (simp; omega)) ?_) | (go_simp; done)))
  · (repeat' (first | (with_reducible assumption) | ((with_reducible refine cell_new ?_ ?_) <;> (first | rfl | (simp; done))) | (with_reducible refine cell_alloc_keep ?_) | (with_reducible refine cell_drew_keep ?_) | (with_reducible refine cell_drewN_keep ?_) | (with_reducible refine cell_set_here ?_) | (with_reducible refine has_set ?_) | (with_reducible refine has_alloc ?_) | (with_reducible refine has_drew ?_) | (with_reducible exact has_of (by with_reducible assumption)) | ((with_reducible refine cell_set_off ?_ ?_); (focus decide)) | ((with_reducible refine cell_set_blk ?_ ?_); (focus (first | (with_reducible assumption) | (simp; done)))) | (with_reducible refine cell_set_ne ?_ (by first | (simp; done) | (simp; omega))) | (with_reducible refine cell_below (by assumption) (by first | omega | (simp; done) | (simp; omega)) ?_) | (go_simp; done)))
  · (repeat' (first | (with_reducible assumption) | ((with_reducible refine cell_new ?_ ?_) <;> (first | rfl | (simp; done))) | (with_reducible refine cell_alloc_keep ?_) | (with_reducible refine cell_drew_keep ?_) | (with_reducible refine cell_drewN_keep ?_) | (with_reducible refine cell_set_here ?_) | (with_reducible refine has_set ?_) | (with_reducible refine has_alloc ?_) | (with_reducible refine has_drew ?_) | (with_reducible exact has_of (by with_reducible assumption)) | ((with_reducible refine cell_set_off ?_ ?_); (focus decide)) | ((with_reducible refine cell_set_blk ?_ ?_); (focus (first | (with_reducible assumption) | (simp; done)))) | (with_reducible refine cell_set_ne ?_ (by first | (simp; done) | (simp; omega))) | (with_reducible refine cell_below (by assumption) (by first | omega | (simp; done) | (simp; omega)) ?_) | (go_simp; done)))
  · (repeat' (first | (with_reducible assumption) | ((with_reducible refine cell_new ?_ ?_) <;> (first | rfl | (simp; done))) | (with_reducible refine cell_alloc_keep ?_) | (with_reducible refine cell_drew_keep ?_) | (with_reducible refine cell_drewN_keep ?_) | (with_reducible refine cell_set_here ?_) | (with_reducible refine has_set ?_) | (with_reducible refine has_alloc ?_) | (with_reducible refine has_drew ?_) | (with_reducible exact has_of (by with_reducible assumption)) | ((with_reducible refine cell_set_off ?_ ?_); (focus decide)) | ((with_reducible refine cell_set_blk ?_ ?_); (focus (first | (with_reducible assumption) | (simp; done)))) | (with_reducible refine cell_set_ne ?_ (by first | (simp; done) | (simp; omega))) | (with_reducible refine cell_below (by assumption) (by first | omega | (simp; done) | (simp; omega)) ?_) | (go_simp; done)))
  · (repeat' (first | (with_reducible assumption) | ((with_reducible refine cell_new ?_ ?_) <;> (first | rfl | (simp; done))) | (with_reducible refine cell_alloc_keep ?_) | (with_reducible refine cell_drew_keep ?_) | (with_reducible refine cell_drewN_keep ?_) | (with_reducible refine cell_set_here ?_) | (with_reducible refine has_set ?_) | (with_reducible refine has_alloc ?_) | (with_reducible refine has_drew ?_) | (with_reducible exact has_of (by with_reducible assumption)) | ((with_reducible refine cell_set_off ?_ ?_); (focus decide)) | ((with_reducible refine cell_set_blk ?_ ?_); (focus (first | (with_reducible assumption) | (simp; done)))) | (with_reducible refine cell_set_ne ?_ (by first | (simp; done) | (simp; omega))) | (with_reducible refine cell_below (by assumption) (by first | omega | (simp; done) | (simp; omega)) ?_) | (go_simp; done)))
  rintro w1 ⟨hB1, hy1_0, hf1_0, hc1_0_0, hc1_0_1, hc1_0_2, hc1_0_3, hc1_0_4, hc1_0_5⟩
  go_loopw [1, 2] (fun a b wr => ∃ x y : Int, a = .int .i64 x ∧ b = .int .i64 y ∧ l ≤ x ∧ x ≤ y ∧ y ≤ h ∧ Hid (x = l ∨ pbrake push rate x ≤ room) ∧ Hid (y = h ∨ room < pbrake push rate (y + 1)) ∧ Below w1.heap.size w1 wr) (fun a b _ => (intOf b - intOf a).toNat)
  case atStart => exact ⟨l, h, rfl, rfl, Int.le_refl _, h1, Int.le_refl _, .inl rfl, .inl rfl, Below.refl _ _⟩
  case round =>
    obtain ⟨x, y, rfl, rfl, g1, g2, g3, g4, g5, hbw⟩ := hrel
    have hbws := hbw.size
    have c0 : wr.cell? ⟨w.heap.size, 0, none⟩ = some (.int .i64 lo) := cell_below hbw hy1_0 hc1_0_0
    have c1 : wr.cell? ⟨w.heap.size, 1, none⟩ = some (.int .i64 hi) := cell_below hbw hy1_0 hc1_0_1
    have c2 : wr.cell? ⟨w.heap.size, 2, none⟩ = some (.int .i64 noise) := cell_below hbw hy1_0 hc1_0_2
    have c3 : wr.cell? ⟨w.heap.size, 3, none⟩ = some (.int .i64 push) := cell_below hbw hy1_0 hc1_0_3
    have c4 : wr.cell? ⟨w.heap.size, 4, none⟩ = some (.int .i64 most) := cell_below hbw hy1_0 hc1_0_4
    have c5 : wr.cell? ⟨w.heap.size, 5, none⟩ = some (.int .i64 rate) := cell_below hbw hy1_0 hc1_0_5
    clear hc1_0_0 hc1_0_1 hc1_0_2 hc1_0_3 hc1_0_4 hc1_0_5
    by_cases hlt : x < y
    · have k1 : x < (x + y + 1) / 2 := by omega
      have k2 : (x + y + 1) / 2 ≤ y := by omega
      go_wp2_with (first | (go_at_call 171; ((with_reducible refine (guardbrake _ _ _ _ _ _ _ _ (by omega) (by omega) (by omega) (by omega) (by omega) (by omega)).mono ?_); rintro e w' ⟨rfl, rfl⟩)))
      · go_roundw
        case rel => exact ⟨_, _, rfl, rfl, by omega, by omega, by omega, .inr (by assumption), g5, by (repeat' (first | (with_reducible exact Below.refl _ _) | (with_reducible assumption) | (with_reducible refine Below.alloc ?_ ?_ _) | (with_reducible refine Below.drew ?_) | (with_reducible refine below_drewN ?_ _) | (with_reducible refine Below.setCell ?_ ?_ _) | (with_reducible refine Below.trans ?_ (Below.mono (by assumption) ?_)) | omega | (simp; omega) | (simp; done)))⟩
        case measure => simp [intOf]; omega
      · go_roundw
        case rel => exact ⟨_, _, rfl, rfl, by omega, by omega, by omega, g4, .inr (by rw [Int.sub_add_cancel]; omega), by (repeat' (first | (with_reducible exact Below.refl _ _) | (with_reducible assumption) | (with_reducible refine Below.alloc ?_ ?_ _) | (with_reducible refine Below.drew ?_) | (with_reducible refine below_drewN ?_ _) | (with_reducible refine Below.setCell ?_ ?_ _) | (with_reducible refine Below.trans ?_ (Below.mono (by assumption) ?_)) | omega | (simp; omega) | (simp; done)))⟩
        case measure => simp [intOf]; omega
    · have hxy : x = y := by omega
      have g6 : Hid (x = r) := (phigh_of hr h1 ⟨g1, by omega, g4.out, by rw [hxy]; exact g5.out⟩).symm.trans (q ())
      clear q g4 g5 hxy
      go_wp2_with fail
      go_ret
      exact ⟨ret_int g6.out, by (repeat' (first | (with_reducible exact Below.refl _ _) | (with_reducible assumption) | (with_reducible refine Below.alloc ?_ ?_ _) | (with_reducible refine Below.drew ?_) | (with_reducible refine below_drewN ?_ _) | (with_reducible refine Below.setCell ?_ ?_ _) | (with_reducible refine Below.trans ?_ (Below.mono (by assumption) ?_)) | omega | (simp; omega) | (simp; done)))⟩
end Go.Proofs.Ytdfpenjhpemokaa
