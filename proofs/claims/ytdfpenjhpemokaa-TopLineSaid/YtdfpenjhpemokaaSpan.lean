/-
  Spans: fix.Check, Hull, both; the reference's SpanMay.
-/
import Derived.Test.YtdfpenjhpemokaaKit
import Derived.Test.YtdfpenjhpemokaaFix2
import Derived.BigGuardPart
set_option linter.unusedVariables false
set_option linter.unusedSimpArgs false
namespace Go.Proofs.Ytdfpenjhpemokaa
open Go.RowKit
/-- May a span be: 0, or the error's number. -/
def pspan (a b : Int) : Int := if b < a ∨ a < -2147483647 ∨ 2147483647 < b then 3 else 0

set_option maxHeartbeats 400000 in
theorem fixCheck (a b : Int) (w : World) : Calls Try.prog 45 #[.agg #[.int .i64 a, .int .i64 b]] w fun e w' => e = .returned (errV (pspan a b)) ∧ w.alloc (.cells #[.int .i64 a, .int .i64 b] 41) = w' := by
  have hE : Hid (pspan a b = if b < a ∨ a < -2147483647 ∨ 2147483647 < b then 3 else 0) := rfl
  generalize pspan a b = r at *
  go_enter Try.func45, Try.ntmps45
  go_wp2
  all_goals go_ret
  all_goals refine ⟨?_, rfl⟩
  all_goals rw [hE.out]
  all_goals first | (rw [if_neg (by omega)]; rfl) | (rw [if_pos (by omega)]; rfl)

set_option maxHeartbeats 400000 in
theorem refSpanMay (a b : Int) (w : World) : Calls Try.prog 40 #[.agg #[.int .i64 a, .int .i64 b]] w fun e w' => e = .returned (.int .i64 (pspan a b)) ∧ w.alloc (.cells #[.int .i64 a, .int .i64 b] 41) = w' := by
  have hE : Hid (pspan a b = if b < a ∨ a < -2147483647 ∨ 2147483647 < b then 3 else 0) := rfl
  generalize pspan a b = r at *
  go_enter Try.func40, Try.ntmps40
  go_wp2_with (go_at_call 30; ((with_reducible refine (refWhen _ _ _).mono ?_); rintro e w' ⟨rfl, rfl⟩))
  all_goals go_ret
  all_goals refine ⟨ret_int ?_, rfl⟩
  all_goals rw [hE.out]
  all_goals (try unfold pwhen)
  all_goals (repeat' split)
  all_goals first | omega | (simp at *; omega)

/-- The least of a number and the first k of others; the greatest. -/
def hmin (a : Int) (f : Nat → Int) : Nat → Int
  | 0 => a
  | k + 1 => if f k < hmin a f k then f k else hmin a f k
def hmax (a : Int) (f : Nat → Int) : Nat → Int
  | 0 => a
  | k + 1 => if hmax a f k < f k then f k else hmax a f k

set_option maxHeartbeats 400000 in
theorem fixHull (a b : Int) (f : Nat → Int) (blk n c : Nat) (w : World) (hn : n ≤ 100) (hb : blk < w.heap.size) (hc : ∀ i, i < n → w.cell? ⟨blk, i, none⟩ = some (.int .i64 (f i))) :
    Calls Try.prog 161 #[.agg #[.int .i64 a, .int .i64 b], .slice (some ⟨blk, 0, none⟩) n c] w fun e w' => e = .returned (.agg #[.int .i64 (hmin a f n), .int .i64 (hmax b f n)]) ∧ Below w.heap.size w w' := by
  have HC := Lib.hid hc
  clear hc
  go_enter Try.func161, Try.ntmps161
  go_wp2_with fail
  go_loopw [9] (fun i wr => ∃ k : Nat, k ≤ n ∧ i = .int .i64 k ∧ Below w.heap.size w wr ∧ w.heap.size + 1 < wr.heap.size ∧ (∀ o, wr.frozen? ⟨w.heap.size, o, none⟩ = false) ∧ (∀ o, wr.frozen? ⟨w.heap.size + 1, o, none⟩ = false) ∧ wr.cell? ⟨w.heap.size, 0, none⟩ = some (.int .i64 (hmin a f k)) ∧ wr.cell? ⟨w.heap.size, 1, none⟩ = some (.int .i64 (hmax b f k)) ∧ wr.cell? ⟨w.heap.size + 1, 0, none⟩ = some (.int .i64 0) ∧ wr.cell? ⟨w.heap.size + 1, 1, none⟩ = some (.int .i64 0)) (fun i _ => n - (intOf i).toNat)
  case atStart => exact ⟨0, by omega, rfl, by (repeat' (first | (with_reducible exact Below.refl _ _) | (with_reducible assumption) | (with_reducible refine Below.alloc ?_ ?_ _) | (with_reducible refine Below.drew ?_) | (with_reducible refine below_drewN ?_ _) | (with_reducible refine Below.setCell ?_ ?_ _) | (with_reducible refine Below.trans ?_ (Below.mono (by assumption) ?_)) | omega | (simp; omega) | (simp; done))), by simp, fun o => by go_simp, fun o => by go_simp, by simp [hmin, World.cell?_alloc_past], by simp [hmax, World.cell?_alloc_past], by go_simp, by go_simp⟩
  case round =>
    obtain ⟨k, hk, rfl, hbw, hsz, hf0, hf1, h0, h1, h2, h3⟩ := hrel
    have e1 : Hid (hmin a f (k + 1) = if f k < hmin a f k then f k else hmin a f k) := rfl
    have e2 : Hid (hmax b f (k + 1) = if hmax b f k < f k then f k else hmax b f k) := rfl
    by_cases hlt : k < n
    · have hcell : wr.cell? ⟨blk, k, none⟩ = some (.int .i64 (f k)) := (hbw.cell (p := ⟨blk, k, none⟩) hb).trans (HC.out k hlt)
      generalize hmin a f k = mn at *
      generalize hmax b f k = mx at *
      generalize f k = fk at *
      go_wp2_with fail
      go_roundw
      case rel => exact ⟨k + 1, by omega, by go_num, by (repeat' (first | (with_reducible exact Below.refl _ _) | (with_reducible assumption) | (with_reducible refine Below.alloc ?_ ?_ _) | (with_reducible refine Below.drew ?_) | (with_reducible refine below_drewN ?_ _) | (with_reducible refine Below.setCell ?_ ?_ _) | (with_reducible refine Below.trans ?_ (Below.mono (by assumption) ?_)) | omega | (simp; omega) | (simp; done))), by simpa using hsz, fun o => by go_simp, fun o => by go_simp, (World.cell?_setCell_other _ _ _ _ (by simp)).trans (cell_set_same ⟨_, h0⟩ (by rw [e1.out])), cell_set_same ⟨_, (World.cell?_setCell_other _ _ _ _ (by simp)).trans h1⟩ (by rw [e2.out]), (World.cell?_setCell_other _ _ _ _ (by simp)).trans ((World.cell?_setCell_other _ _ _ _ (by simp)).trans h2), (World.cell?_setCell_other _ _ _ _ (by simp)).trans ((World.cell?_setCell_other _ _ _ _ (by simp)).trans h3)⟩
      case measure => simp [intOf]; omega
    · have hkn : Hid (k = n) := by unfold Hid; omega
      generalize hmn : hmin a f k = mn at *
      generalize hmx : hmax b f k = mx at *
      have HM := Lib.hid hmn
      have HX := Lib.hid hmx
      clear hmn hmx e1 e2
      go_wp2_with fail
      refine bodyPost_ret (v := .agg #[.int .i64 mn, .int .i64 mx]) ?_ rfl ⟨by rw [← HM.out, ← HX.out, hkn.out], by (repeat' (first | (with_reducible exact Below.refl _ _) | (with_reducible assumption) | (with_reducible refine Below.alloc ?_ ?_ _) | (with_reducible refine Below.drew ?_) | (with_reducible refine below_drewN ?_ _) | (with_reducible refine Below.setCell ?_ ?_ _) | (with_reducible refine Below.trans ?_ (Below.mono (by assumption) ?_)) | omega | (simp; omega) | (simp; done)))⟩
      simp [results, Try.results161, go_sem, h2, h3]
end Go.Proofs.Ytdfpenjhpemokaa
