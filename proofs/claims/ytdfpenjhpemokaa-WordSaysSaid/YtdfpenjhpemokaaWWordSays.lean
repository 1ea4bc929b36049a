/-
  The law WordSays walked.
-/
import Derived.Test.YtdfpenjhpemokaaOpen
import Derived.Test.YtdfpenjhpemokaaWord5
namespace Go.Proofs.Ytdfpenjhpemokaa
open Go.RowKit

theorem refWord_is (l s t Q : Nat) (d : Int) (w : World) (h1 : l < 256) (h2 : s < 4) (h3 : t < 4) (h4 : -262144 ≤ d) (h5 : d ≤ 262143) (h : Unit → pword (turn8 l) s t (bits19 d) = Q) : Calls Try.prog 36 #[.agg #[.int .i64 l, .int .i64 s, .int .i64 t, .int .i64 d]] w fun e w' => e = .returned (.int .u32 Q) ∧ Below w.heap.size w w' := by
  rw [← h ()]; exact refWord l s t d w h1 h2 h3 h4 h5
theorem wordPack_is (l s t Q : Nat) (d : Int) (w : World) (h1 : l < 256) (h2 : s < 4) (h3 : t < 4) (h4 : -262144 ≤ d) (h5 : d ≤ 262143) (h : Unit → pword (turn8 l) s t (bits19 d) = Q) : Calls Try.prog 37 #[.agg #[.int .i64 l, .int .i64 s, .int .i64 t, .int .i64 d]] w fun e w' =>
    e = .returned (.tuple #[.int .u32 Q, errV 0]) ∧ Below w.heap.size w w' := by
  rw [← h ()]; exact wordPack l s t d w h1 h2 h3 h4 h5
theorem pread_0 (l s t : Nat) (d : Int) (h1 : l < 256) (h2 : s < 4) (h3 : t < 4) (h4 : -262144 ≤ d) (h5 : d ≤ 262143) : pread l s t d = 0 := by unfold pread; rw [if_pos (by omega)]
theorem wordCheck_is (l s t d k : Int) (w : World) (h : Unit → pread l s t d = k) : Calls Try.prog 38 #[.agg #[.int .i64 l, .int .i64 s, .int .i64 t, .int .i64 d]] w fun e w' =>
    e = .returned (errV k) ∧ w.alloc (.cells #[.int .i64 l, .int .i64 s, .int .i64 t, .int .i64 d] 27) = w' := by
  rw [← h ()]; exact wordCheck l s t d w
theorem refReadingMay_is (l s t d k : Int) (w : World) (h : Unit → pread l s t d = k) : Calls Try.prog 35 #[.agg #[.int .i64 l, .int .i64 s, .int .i64 t, .int .i64 d]] w fun e w' =>
    e = .returned (.int .i64 k) ∧ w.alloc (.cells #[.int .i64 l, .int .i64 s, .int .i64 t, .int .i64 d] 27) = w' := by
  rw [← h ()]; exact refReadingMay l s t d w

set_option maxHeartbeats 400000 in
theorem WordSays_ok (l s t Q : Nat) (d : Int) (w : World) (h1 : l < 256) (h2 : s < 4) (h3 : t < 4) (h4 : -262144 ≤ d) (h5 : d ≤ 262143) (h : Unit → pword (turn8 l) s t (bits19 d) = Q) :
    Calls Try.prog 4 #[.agg #[.int .i64 l, .int .i64 s, .int .i64 t, .int .i64 d]] w fun e w' => e = .returned (.bool true) ∧ Below w.heap.size w w' := by
  have hk : Unit → pread l s t d = 0 := fun _ => pread_0 l s t d h1 h2 h3 h4 h5
  go_enter Try.func4, Try.ntmps4
  go_wp2_with (first | (go_at_call 35; ((with_reducible refine (refReadingMay_is _ _ _ _ 0 _ hk).mono ?_); rintro e w' ⟨rfl, rfl⟩)) | (go_at_call 36; ((with_reducible refine (refWord_is _ _ _ Q _ _ (by omega) (by omega) (by omega) (by omega) (by omega) h).mono ?_); rintro e w1 ⟨rfl, hb1⟩; have hz1 := hb1.size; (repeat (first | simp only [World.size_alloc] at hz1 | simp only [World.size_drew] at hz1 | simp only [World.size_setCell] at hz1)); have hB1 : Below w.heap.size w w1 := by (repeat' (first | (with_reducible exact Below.refl _ _) | (with_reducible assumption) | (with_reducible refine Below.alloc ?_ ?_ _) | (with_reducible refine Below.drew ?_) | (with_reducible refine below_drewN ?_ _) | (with_reducible refine Below.setCell ?_ ?_ _) | (with_reducible refine Below.trans ?_ (Below.mono (by assumption) ?_)) | omega | (simp; omega) | (simp; done)))); (have hq1_0 := fun o : Nat => hb1.cell (p := ⟨w.heap.size, o, none⟩) (by first | omega | (simp; done) | (simp; omega))); (have hf1_0 := fun o : Nat => hb1.frozen (p := ⟨w.heap.size, o, none⟩) (by first | omega | (simp; done) | (simp; omega))); (have hy1_0 : w.heap.size < w1.heap.size := by omega); clear hb1) | (go_at_call 37; ((with_reducible refine (wordPack_is _ _ _ Q _ _ (by omega) (by omega) (by omega) (by omega) (by omega) h).mono ?_); rintro e w2 ⟨rfl, hb2⟩; have hz2 := hb2.size; (repeat (first | simp only [World.size_alloc] at hz2 | simp only [World.size_drew] at hz2 | simp only [World.size_setCell] at hz2)); have hB2 : Below w.heap.size w w2 := by (repeat' (first | (with_reducible exact Below.refl _ _) | (with_reducible assumption) | (with_reducible refine Below.alloc ?_ ?_ _) | (with_reducible refine Below.drew ?_) | (with_reducible refine below_drewN ?_ _) | (with_reducible refine Below.setCell ?_ ?_ _) | (with_reducible refine Below.trans ?_ (Below.mono (by assumption) ?_)) | omega | (simp; omega) | (simp; done)))); (have hq2_0 := fun o : Nat => hb2.cell (p := ⟨w.heap.size, o, none⟩) (by first | omega | (simp; done) | (simp; omega))); (have hf2_0 := fun o : Nat => hb2.frozen (p := ⟨w.heap.size, o, none⟩) (by first | omega | (simp; done) | (simp; omega))); (have hy2_0 : w.heap.size < w2.heap.size := by omega); clear hb2) | (go_at_call 38; ((with_reducible refine (wordCheck_is _ _ _ _ 0 _ hk).mono ?_); rintro e w' ⟨rfl, rfl⟩)) | (go_at_call 34; ((with_reducible refine (refIs _ _ _).mono ?_); rintro e w' ⟨rfl, rfl⟩)))
  go_ret
  exact ⟨rfl, by (repeat' (first | (with_reducible exact Below.refl _ _) | (with_reducible assumption) | (with_reducible refine Below.alloc ?_ ?_ _) | (with_reducible refine Below.drew ?_) | (with_reducible refine below_drewN ?_ _) | (with_reducible refine Below.setCell ?_ ?_ _) | (with_reducible refine Below.trans ?_ (Below.mono (by assumption) ?_)) | omega | (simp; omega) | (simp; done)))⟩

set_option maxHeartbeats 400000 in
theorem WordSays_err (l s t d : Int) (w : World) (h : ¬ pread l s t d = 0) :
    Calls Try.prog 4 #[.agg #[.int .i64 l, .int .i64 s, .int .i64 t, .int .i64 d]] w fun e w' => e = .returned (.bool true) ∧ Below w.heap.size w w' := by
  have hz : (pread l s t d == 0) = false := by simpa using h
  have H := Lib.hid h
  clear h
  go_enter Try.func4, Try.ntmps4
  go_wp2_with (first | (go_at_call 35; ((with_reducible refine (refReadingMay _ _ _ _ _).mono ?_); rintro e w' ⟨rfl, rfl⟩)) | (go_at_call 37; ((with_reducible refine (wordPack_err _ _ _ _ _ H.out).mono ?_); rintro e w2 ⟨rfl, hb2⟩; have hz2 := hb2.size; (repeat (first | simp only [World.size_alloc] at hz2 | simp only [World.size_drew] at hz2 | simp only [World.size_setCell] at hz2)); have hB2 : Below w.heap.size w w2 := by (repeat' (first | (with_reducible exact Below.refl _ _) | (with_reducible assumption) | (with_reducible refine Below.alloc ?_ ?_ _) | (with_reducible refine Below.drew ?_) | (with_reducible refine below_drewN ?_ _) | (with_reducible refine Below.setCell ?_ ?_ _) | (with_reducible refine Below.trans ?_ (Below.mono (by assumption) ?_)) | omega | (simp; omega) | (simp; done)))); (have hq2_0 := fun o : Nat => hb2.cell (p := ⟨w.heap.size, o, none⟩) (by first | omega | (simp; done) | (simp; omega))); (have hf2_0 := fun o : Nat => hb2.frozen (p := ⟨w.heap.size, o, none⟩) (by first | omega | (simp; done) | (simp; omega))); (have hy2_0 : w.heap.size < w2.heap.size := by omega); clear hb2) | (go_at_call 38; ((with_reducible refine (wordCheck _ _ _ _ _).mono ?_); rintro e w' ⟨rfl, rfl⟩)) | (go_at_call 34; ((with_reducible refine (refIs _ _ _).mono ?_); rintro e w' ⟨rfl, rfl⟩)))
  go_ret
  exact ⟨rfl, by (repeat' (first | (with_reducible exact Below.refl _ _) | (with_reducible assumption) | (with_reducible refine Below.alloc ?_ ?_ _) | (with_reducible refine Below.drew ?_) | (with_reducible refine below_drewN ?_ _) | (with_reducible refine Below.setCell ?_ ?_ _) | (with_reducible refine Below.trans ?_ (Below.mono (by assumption) ?_)) | omega | (simp; omega) | (simp; done)))⟩

theorem WordSays_core (l s t d : Int) (_ : B64 l) (_ : B64 s) (_ : B64 t) (_ : B64 d) (w : World) :
    Calls Try.prog 4 #[.agg #[.int .i64 l, .int .i64 s, .int .i64 t, .int .i64 d]] w fun e w' => e = .returned (.bool true) ∧ Below w.heap.size w w' := by
  by_cases h : pread l s t d = 0
  · have hf := pread_of h
    obtain ⟨L, rfl⟩ := Int.eq_ofNat_of_zero_le hf.1
    obtain ⟨S, rfl⟩ := Int.eq_ofNat_of_zero_le hf.2.2.1
    obtain ⟨T, rfl⟩ := Int.eq_ofNat_of_zero_le hf.2.2.2.2.1
    exact WordSays_ok L S T _ d w (by omega) (by omega) (by omega) (by omega) (by omega) (fun _ => rfl)
  · exact WordSays_err l s t d w h
end Go.Proofs.Ytdfpenjhpemokaa
