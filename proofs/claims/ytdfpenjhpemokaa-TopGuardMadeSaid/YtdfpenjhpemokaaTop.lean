/-
  The closed facts of the laws of package fulmartop: awake, fixed.
-/
import Derived.Test.YtdfpenjhpemokaaWord5
set_option linter.unusedVariables false
set_option linter.unusedSimpArgs false
namespace Go.Proofs.Ytdfpenjhpemokaa
open Go.RowKit
theorem wordPack_is (l s t Q : Nat) (d : Int) (w : World) (h1 : l < 256) (h2 : s < 4) (h3 : t < 4) (h4 : -262144 ≤ d) (h5 : d ≤ 262143) (h : Unit → pword (turn8 l) s t (bits19 d) = Q) : Calls Try.prog 37 #[.agg #[.int .i64 l, .int .i64 s, .int .i64 t, .int .i64 d]] w fun e w' =>
    e = .returned (.tuple #[.int .u32 Q, errV 0]) ∧ Below w.heap.size w w' := by
  rw [← h ()]; exact wordPack l s t d w h1 h2 h3 h4 h5
theorem fixMul_is (a b m : Int) (w : World) (h : Unit → pmul a b = m) : Calls Try.prog 68 #[.int .i64 a, .int .i64 b] w fun e w' => e = .returned (.int .i64 m) ∧ w = w' := by
  rw [← h ()]; exact fixMul a b w
theorem awake_pack (w : World) : Calls Try.prog 37 #[.agg #[.int .i64 1, .int .i64 0, .int .i64 3, .int .i64 (-1)]] w fun e w' =>
    e = .returned (.tuple #[.int .u32 4294966400, errV 0]) ∧ Below w.heap.size w w' :=
  wordPack_is 1 0 3 4294966400 (-1) w (by omega) (by omega) (by omega) (by omega) (by omega) (fun _ => by decide +kernel)

set_option maxHeartbeats 400000 in
theorem topAwake (w : World) : Calls Try.prog 87 #[] w fun e w' => e = .returned (.bool true) ∧ Below w.heap.size w w' := by
  have hm : Unit → pmul 768 128 = 384 := fun _ => by decide +kernel
  go_enter Try.func87, Try.ntmps87
  go_wp2_with (first | (go_at_call 37; ((with_reducible refine (awake_pack _).mono ?_); rintro e w1 ⟨rfl, hb1⟩; have hz1 := hb1.size; (repeat (first | simp only [World.size_alloc] at hz1 | simp only [World.size_drew] at hz1 | simp only [World.size_setCell] at hz1)); have hB1 : Below w.heap.size w w1 := by (repeat' (first | (with_reducible exact Below.refl _ _) | (with_reducible assumption) | (with_reducible refine Below.alloc ?_ ?_ _) | (with_reducible refine Below.drew ?_) | (with_reducible refine below_drewN ?_ _) | (with_reducible refine Below.setCell ?_ ?_ _) | (with_reducible refine Below.trans ?_ (Below.mono (by assumption) ?_)) | omega | (simp; omega) | (simp; done)))); clear hb1) | (go_at_call 68; ((with_reducible refine (fixMul_is _ _ 384 _ hm).mono ?_); rintro e w' ⟨rfl, rfl⟩)))
  go_ret
  exact ⟨rfl, by (repeat' (first | (with_reducible exact Below.refl _ _) | (with_reducible assumption) | (with_reducible refine Below.alloc ?_ ?_ _) | (with_reducible refine Below.drew ?_) | (with_reducible refine below_drewN ?_ _) | (with_reducible refine Below.setCell ?_ ?_ _) | (with_reducible refine Below.trans ?_ (Below.mono (by assumption) ?_)) | omega | (simp; omega) | (simp; done)))⟩

end Go.Proofs.Ytdfpenjhpemokaa
