/-
  Spans: SpanAdd, SpanMul for all spans; In.
-/
import Derived.Test.YtdfpenjhpemokaaSpan2
import Derived.Test.YtdfpenjhpemokaaGuard
namespace Go.Proofs.Ytdfpenjhpemokaa
open Go.RowKit

set_option maxHeartbeats 400000 in
theorem fixSpanMul (a b c d k lo hi : Int) (w : World) (hk : Unit → por (pspan a b) (pspan c d) = k) (hl : Unit → (if k = 0 then hmin (pmul a c) (three (pmul a d) (pmul b c) (pmul b d)) 3 else 0) = lo) (hh : Unit → (if k = 0 then hmax (pmul a c) (three (pmul a d) (pmul b c) (pmul b d)) 3 else 0) = hi) :
    Calls Try.prog 42 #[.agg #[.int .i64 a, .int .i64 b], .agg #[.int .i64 c, .int .i64 d]] w fun e w' => e = .returned (.tuple #[.agg #[.int .i64 lo, .int .i64 hi], errV k]) ∧ Below w.heap.size w w' := by
  have hB : ∀ w0 : World, Calls Try.prog 130 #[.agg #[.int .i64 a, .int .i64 b], .agg #[.int .i64 c, .int .i64 d], .func (Fn.func 68) #[] #[]] w0 fun e w' => e = .returned (.tuple #[.agg #[.int .i64 lo, .int .i64 hi], errV k]) ∧ Below w0.heap.size w0 w' := by
    intro w0
    by_cases h1 : pspan a b = 0
    · by_cases h2 : pspan c d = 0
      · have e : k = 0 := by rw [← hk (), h1, h2]; rfl
        rw [e] at hl hh
        rw [← hl (), ← hh (), e, if_pos rfl, if_pos rfl]
        exact bothMul_ok a b c d w0 (fun _ => h1) (fun _ => h2)
      · have e : k = pspan c d := by rw [← hk (), h1]; rfl
        have hne : k ≠ 0 := by rw [e]; exact h2
        rw [← hl (), ← hh (), if_neg hne, if_neg hne]
        exact both_err2 a b c d k _ w0 (fun _ => h1) (fun _ => e.symm) hne
    · have e : k = pspan a b := by rw [← hk ()]; exact por_ne h1
      have hne : k ≠ 0 := by rw [e]; exact h1
      rw [← hl (), ← hh (), if_neg hne, if_neg hne]
      exact both_err1 a b c d k _ w0 (fun _ => e.symm) hne
  have HB := Lib.hid hB
  clear hB hk hl hh
  go_enter Try.func42, Try.ntmps42
  go_wp2_with (go_at_call 130; ((with_reducible refine (HB.out _).mono ?_); rintro e w1 ⟨rfl, hb1⟩; have hz1 := hb1.size; (repeat (first | simp only [World.size_alloc] at hz1 | simp only [World.size_drew] at hz1 | simp only [World.size_setCell] at hz1)); have hB1 : Below w.heap.size w w1 := by (repeat' (first | (with_reducible exact Below.refl _ _) | (with_reducible assumption) | (with_reducible refine Below.alloc ?_ ?_ _) | (with_reducible refine Below.drew ?_) | (with_reducible refine below_drewN ?_ _) | (with_reducible refine Below.setCell ?_ ?_ _) | (with_reducible refine Below.trans ?_ (Below.mono (by assumption) ?_)) | omega | (simp; omega) | (simp; done)))); (have hq1_2 := fun o : Nat => hb1.cell (p := ⟨w.heap.size + 1 + 1, o, none⟩) (by first | omega | (simp; done) | (simp; omega))); (have hf1_2 := fun o : Nat => hb1.frozen (p := ⟨w.heap.size + 1 + 1, o, none⟩) (by first | omega | (simp; done) | (simp; omega))); (have hy1_2 : w.heap.size + 1 + 1 < w1.heap.size := by omega); clear hb1)
  refine bodyPost_ret (v := .tuple #[.agg #[.int .i64 lo, .int .i64 hi], errV k]) ?_ rfl ⟨rfl, by (repeat' (first | (with_reducible exact Below.refl _ _) | (with_reducible assumption) | (with_reducible refine Below.alloc ?_ ?_ _) | (with_reducible refine Below.drew ?_) | (with_reducible refine below_drewN ?_ _) | (with_reducible refine Below.setCell ?_ ?_ _) | (with_reducible refine Below.trans ?_ (Below.mono (by assumption) ?_)) | omega | (simp; omega) | (simp; done)))⟩
  simp [results, Try.results42, go_sem, hq1_2, hy1_2]

set_option maxHeartbeats 400000 in
theorem fixSpanAdd (a b c d k lo hi : Int) (w : World) (hk : Unit → por (pspan a b) (pspan c d) = k) (hl : Unit → (if k = 0 then hmin (psum2 a c) (three (psum2 a d) (psum2 b c) (psum2 b d)) 3 else 0) = lo) (hh : Unit → (if k = 0 then hmax (psum2 a c) (three (psum2 a d) (psum2 b c) (psum2 b d)) 3 else 0) = hi) :
    Calls Try.prog 41 #[.agg #[.int .i64 a, .int .i64 b], .agg #[.int .i64 c, .int .i64 d]] w fun e w' => e = .returned (.tuple #[.agg #[.int .i64 lo, .int .i64 hi], errV k]) ∧ Below w.heap.size w w' := by
  have hB : ∀ w0 : World, Calls Try.prog 130 #[.agg #[.int .i64 a, .int .i64 b], .agg #[.int .i64 c, .int .i64 d], .func (Fn.func 131) #[] #[]] w0 fun e w' => e = .returned (.tuple #[.agg #[.int .i64 lo, .int .i64 hi], errV k]) ∧ Below w0.heap.size w0 w' := by
    intro w0
    by_cases h1 : pspan a b = 0
    · by_cases h2 : pspan c d = 0
      · have e : k = 0 := by rw [← hk (), h1, h2]; rfl
        rw [e] at hl hh
        rw [← hl (), ← hh (), e, if_pos rfl, if_pos rfl]
        exact bothAdd_ok a b c d w0 (fun _ => h1) (fun _ => h2)
      · have e : k = pspan c d := by rw [← hk (), h1]; rfl
        have hne : k ≠ 0 := by rw [e]; exact h2
        rw [← hl (), ← hh (), if_neg hne, if_neg hne]
        exact both_err2 a b c d k _ w0 (fun _ => h1) (fun _ => e.symm) hne
    · have e : k = pspan a b := by rw [← hk ()]; exact por_ne h1
      have hne : k ≠ 0 := by rw [e]; exact h1
      rw [← hl (), ← hh (), if_neg hne, if_neg hne]
      exact both_err1 a b c d k _ w0 (fun _ => e.symm) hne
  have HB := Lib.hid hB
  clear hB hk hl hh
  have hmf : ∀ (fn : Fn) (first cap : Array Value) (w : World), (Instr.makeFunc fn first cap).run Try.prog w = .ok (.func fn first cap) w := fun _ _ _ _ => rfl
  go_enter Try.func41, Try.ntmps41
  go_wp2_with (go_at_call 130; ((with_reducible refine (HB.out _).mono ?_); rintro e w1 ⟨rfl, hb1⟩; have hz1 := hb1.size; (repeat (first | simp only [World.size_alloc] at hz1 | simp only [World.size_drew] at hz1 | simp only [World.size_setCell] at hz1)); have hB1 : Below w.heap.size w w1 := by (repeat' (first | (with_reducible exact Below.refl _ _) | (with_reducible assumption) | (with_reducible refine Below.alloc ?_ ?_ _) | (with_reducible refine Below.drew ?_) | (with_reducible refine below_drewN ?_ _) | (with_reducible refine Below.setCell ?_ ?_ _) | (with_reducible refine Below.trans ?_ (Below.mono (by assumption) ?_)) | omega | (simp; omega) | (simp; done)))); (have hq1_2 := fun o : Nat => hb1.cell (p := ⟨w.heap.size + 1 + 1, o, none⟩) (by first | omega | (simp; done) | (simp; omega))); (have hf1_2 := fun o : Nat => hb1.frozen (p := ⟨w.heap.size + 1 + 1, o, none⟩) (by first | omega | (simp; done) | (simp; omega))); (have hy1_2 : w.heap.size + 1 + 1 < w1.heap.size := by omega); clear hb1)
  refine bodyPost_ret (v := .tuple #[.agg #[.int .i64 lo, .int .i64 hi], errV k]) ?_ rfl ⟨rfl, by (repeat' (first | (with_reducible exact Below.refl _ _) | (with_reducible assumption) | (with_reducible refine Below.alloc ?_ ?_ _) | (with_reducible refine Below.drew ?_) | (with_reducible refine below_drewN ?_ _) | (with_reducible refine Below.setCell ?_ ?_ _) | (with_reducible refine Below.trans ?_ (Below.mono (by assumption) ?_)) | omega | (simp; omega) | (simp; done)))⟩
  simp [results, Try.results41, go_sem, hq1_2, hy1_2]

/-! The corners of sums are ends. -/
theorem pof_mono {x y : Int} (h : x ≤ y) : pof x ≤ pof y := by unfold pof; (repeat' split) <;> omega
theorem psum2_mono {x y u v : Int} (h : x ≤ u) (h2 : y ≤ v) : psum2 x y ≤ psum2 u v := by
  unfold psum2
  have := pof_mono h
  have := pof_mono h2
  exact pof_mono (by omega)
theorem hmin3 (a x y z : Int) : hmin a (three x y z) 3 = min (min (min a x) y) z := by
  have e0 : three x y z 0 = x := rfl
  have e1 : three x y z 1 = y := rfl
  have e2 : three x y z 2 = z := rfl
  simp only [hmin, e0, e1, e2]
  (repeat' split) <;> omega
theorem hmax3 (a x y z : Int) : hmax a (three x y z) 3 = max (max (max a x) y) z := by
  have e0 : three x y z 0 = x := rfl
  have e1 : three x y z 1 = y := rfl
  have e2 : three x y z 2 = z := rfl
  simp only [hmax, e0, e1, e2]
  (repeat' split) <;> omega
theorem sum_lo (a b c d : Int) (h1 : a ≤ b) (h2 : c ≤ d) : hmin (psum2 a c) (three (psum2 a d) (psum2 b c) (psum2 b d)) 3 = psum2 a c := by
  rw [hmin3]
  have g1 := psum2_mono (Int.le_refl a) h2
  have g2 := psum2_mono h1 (Int.le_refl c)
  have g3 := psum2_mono h1 h2
  omega
theorem sum_hi (a b c d : Int) (h1 : a ≤ b) (h2 : c ≤ d) : hmax (psum2 a c) (three (psum2 a d) (psum2 b c) (psum2 b d)) 3 = psum2 b d := by
  rw [hmax3]
  have g1 := psum2_mono h1 (Int.le_refl d)
  have g2 := psum2_mono (Int.le_refl b) h2
  have g3 := psum2_mono h1 h2
  omega
theorem pspan_0 {a b : Int} (h : pspan a b = 0) : a ≤ b ∧ -2147483647 ≤ a ∧ b ≤ 2147483647 := by
  unfold pspan at h; split at h <;> omega
theorem psum2_in {a c : Int} (h1 : -2147483647 ≤ a) (h2 : a ≤ 2147483647) (h3 : -2147483647 ≤ c) (h4 : c ≤ 2147483647) : psum2 a c = pof (a + c) := by
  unfold psum2; rw [pof_id a h1 h2, pof_id c h3 h4]
end Go.Proofs.Ytdfpenjhpemokaa
