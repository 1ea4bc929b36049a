/-
  guard.Check, where its numbers are within their bounds.
-/
import Derived.Test.YtdfpenjhpemokaaGuard
import Derived.Handy
import Derived.Deep.RegionHeld3
set_option linter.unusedVariables false
set_option linter.unusedSimpArgs false
namespace Go.Proofs.Ytdfpenjhpemokaa
open Go.RowKit

def GFine (lo hi noise push most rate : Int) : Prop := -100000 ≤ lo ∧ lo ≤ 100000 ∧ -100000 ≤ hi ∧ hi ≤ 100000 ∧ 0 ≤ noise ∧ noise ≤ 1000 ∧ 0 ≤ push ∧ push ≤ 2000 ∧ 1 ≤ most ∧ most ≤ 4000 ∧ 1 ≤ rate ∧ rate ≤ most


set_option maxHeartbeats 400000 in
theorem guardCheck_3a (lo hi noise push most rate : Int) (w : World) (h : GFine lo hi noise push most rate) (h1 : most < push) :
    Calls Try.prog 139 #[.agg #[.int .i64 lo, .int .i64 hi, .int .i64 noise, .int .i64 push, .int .i64 most, .int .i64 rate]] w fun e w' => e = .returned (errV 3) ∧ Below w.heap.size w w' := by
  obtain ⟨a1, a2, a3, a4, a5, a6, a7, a8, a9, a10, a11, a12⟩ := h
  go_enter Try.func139, Try.ntmps139
  go_wp2_with (go_at_call 46; ((with_reducible refine (fixIn _ _ _ _).mono ?_); rintro e w' ⟨rfl, rfl⟩))
  go_quiet (fail)
  go_wp2
  go_ret
  exact ⟨rfl, below_drewN (by go_grown) _⟩

set_option maxHeartbeats 400000 in
theorem guardCheck_3b (lo hi noise push most rate : Int) (w : World) (h : GFine lo hi noise push most rate) (h1 : push ≤ most) (h2 : rate < push) :
    Calls Try.prog 139 #[.agg #[.int .i64 lo, .int .i64 hi, .int .i64 noise, .int .i64 push, .int .i64 most, .int .i64 rate]] w fun e w' => e = .returned (errV 3) ∧ Below w.heap.size w w' := by
  obtain ⟨a1, a2, a3, a4, a5, a6, a7, a8, a9, a10, a11, a12⟩ := h
  go_enter Try.func139, Try.ntmps139
  go_wp2_with (go_at_call 46; ((with_reducible refine (fixIn _ _ _ _).mono ?_); rintro e w' ⟨rfl, rfl⟩))
  have hd : decide (most < push) = false := by simpa using h1
  go_quiet (fail)
  go_wp2
  go_ret
  exact ⟨rfl, below_drewN (by go_grown) _⟩

set_option maxHeartbeats 400000 in
theorem guardCheck_c (lo hi noise push most rate : Int) (w : World) (h : GFine lo hi noise push most rate) (h1 : push ≤ most) (h2 : push ≤ rate) (k : Int) (hk : Hid (k = if hi - lo < 2 * (noise + pbrake push rate most) then 3 else 0)) :
    Calls Try.prog 139 #[.agg #[.int .i64 lo, .int .i64 hi, .int .i64 noise, .int .i64 push, .int .i64 most, .int .i64 rate]] w fun e w' => e = .returned (errV k) ∧ Below w.heap.size w w' := by
  obtain ⟨a1, a2, a3, a4, a5, a6, a7, a8, a9, a10, a11, a12⟩ := h
  have hp1 := pbrake_nonneg a11 most (push := push)
  have hp2 := pbrake_le a11 (by omega) (by omega : most + push ≤ 6000)
  go_enter Try.func139, Try.ntmps139
  go_wp2_with (go_at_call 46; ((with_reducible refine (fixIn _ _ _ _).mono ?_); rintro e w' ⟨rfl, rfl⟩))
  have hd : decide (most < push) = false := by simpa using h1
  have hd2 : decide (rate < push) = false := by simpa using h2
  have e1 : IntKind.i64.wrap (hi - lo) = hi - lo := IntWalk.i64_in _ (by omega)
  have e2 : IntKind.i64.wrap (noise + pbrake push rate most) = noise + pbrake push rate most := IntWalk.i64_in _ (by omega)
  have e3 : IntKind.i64.wrap (2 * (noise + pbrake push rate most)) = 2 * (noise + pbrake push rate most) := IntWalk.i64_in _ (by omega)
  go_region_held3 (fun w' => w'.cell? ⟨w.heap.size, 0, none⟩ = some (.int .i64 lo) ∧ w'.cell? ⟨w.heap.size, 1, none⟩ = some (.int .i64 hi) ∧ w'.cell? ⟨w.heap.size, 2, none⟩ = some (.int .i64 noise) ∧ w'.cell? ⟨w.heap.size, 3, none⟩ = some (.int .i64 push) ∧ w'.cell? ⟨w.heap.size, 4, none⟩ = some (.int .i64 most) ∧ w'.cell? ⟨w.heap.size, 5, none⟩ = some (.int .i64 rate)) (first | (refine ⟨?_, ?_, ?_, ?_, ?_, ?_⟩ <;> (go_simp; done)) | go_keep)
    (first | (go_at_call 171; refine (guardbrake _ _ _ _ _ _ _ _ (by omega) (by omega) (by omega) (by omega) (by omega) (by omega)).mono ?_; rintro e w' ⟨rfl, rfl⟩))
  clear e1 e2 e3
  go_wp2
  · go_ret
    exact ⟨by rw [hk.out, if_pos (by assumption)]; rfl, by go_grown⟩
  · go_ret
    exact ⟨by rw [hk.out, if_neg (by omega)]; rfl, by go_grown⟩
end Go.Proofs.Ytdfpenjhpemokaa
