/-
  Package word: Unpack; the reference's ReadingOf.
-/
import Derived.Test.YtdfpenjhpemokaaWord
set_option linter.unusedVariables false
set_option linter.unusedSimpArgs false
namespace Go.Proofs.Ytdfpenjhpemokaa
open Go.RowKit
theorem wordOdd_is (x : Nat) (o : Bool) (w : World) (hx : x < 4294967296) (h : Unit → podd x = o) : Calls Try.prog 127 #[.int .u32 x] w fun e w' => e = .returned (.bool o) ∧ w = w' := by
  rw [← h ()]; exact wordOdd x w hx

def pdata (x : Nat) : Int := if x / 1024 % 524288 > 262143 then ((x / 1024 % 524288 : Nat) : Int) - 524288 else ((x / 1024 % 524288 : Nat) : Int)

set_option maxHeartbeats 400000 in
theorem wordUnpack_bad (x : Nat) (w : World) (hx : x < 4294967296) (ho : Unit → podd x = false) : Calls Try.prog 33 #[.int .u32 x] w fun e w' => e = .returned (.tuple #[.agg #[.int .i64 0, .int .i64 0, .int .i64 0, .int .i64 0], errV 3]) ∧ Below w.heap.size w w' := by
  go_enter Try.func33, Try.ntmps33
  go_wp2_with (go_at_call 127; ((with_reducible refine (wordOdd_is _ _ _ (by omega) ho).mono ?_); rintro e w' ⟨rfl, rfl⟩))
  refine bodyPost_ret (v := .tuple #[.agg #[.int .i64 0, .int .i64 0, .int .i64 0, .int .i64 0], errV 3]) ?_ rfl ⟨rfl, by (repeat' (first | (with_reducible exact Below.refl _ _) | (with_reducible assumption) | (with_reducible refine Below.alloc ?_ ?_ _) | (with_reducible refine Below.drew ?_) | (with_reducible refine below_drewN ?_ _) | (with_reducible refine Below.setCell ?_ ?_ _) | (with_reducible refine Below.trans ?_ (Below.mono (by assumption) ?_)) | omega | (simp; omega) | (simp; done)))⟩
  simp [results, Try.results33, go_sem, errV]

theorem pdata_hi {D : Nat} {x : Nat} (hD : Hid (x / 1024 % 524288 = D)) (h : 262143 < D) : pdata x = (D : Int) - 524288 := by
  unfold pdata; rw [hD.out, if_pos h]
theorem pdata_lo {D : Nat} {x : Nat} (hD : Hid (x / 1024 % 524288 = D)) (h : ¬ 262143 < D) : pdata x = (D : Int) := by
  unfold pdata; rw [hD.out, if_neg h]
theorem mask_at (x m d : Nat) (M : Int) (hx : x < 4294967296) (hm : m ≤ 31) (hM : M = ((2 ^ m - 1 : Nat) : Int)) : bits .and .u32 ((x : Int) / d) M = ((x / d % 2 ^ m : Nat) : Int) := by
  rw [hM, ← Int.natCast_ediv]; exact u32_mask (x / d) m (Nat.lt_of_le_of_lt (Nat.div_le_self _ _) hx) hm
theorem turn8_mod (x : Nat) : turn8 (x % 256) = turn8 x := by
  unfold turn8
  rw [show x % 256 / 2 ^ 0 % 2 = x / 2 ^ 0 % 2 by omega, show x % 256 / 2 ^ 1 % 2 = x / 2 ^ 1 % 2 by omega, show x % 256 / 2 ^ 2 % 2 = x / 2 ^ 2 % 2 by omega, show x % 256 / 2 ^ 3 % 2 = x / 2 ^ 3 % 2 by omega, show x % 256 / 2 ^ 4 % 2 = x / 2 ^ 4 % 2 by omega, show x % 256 / 2 ^ 5 % 2 = x / 2 ^ 5 % 2 by omega, show x % 256 / 2 ^ 6 % 2 = x / 2 ^ 6 % 2 by omega, show x % 256 / 2 ^ 7 % 2 = x / 2 ^ 7 % 2 by omega]
theorem wordTurned_is (x t : Nat) (w : World) (hx : x < 4294967296) (h : Unit → turn8 x = t) : Calls Try.prog 128 #[.int .u32 x] w fun e w' => e = .returned (.int .u32 t) ∧ w = w' := by
  rw [← h ()]; exact wordTurned x w hx

set_option maxHeartbeats 400000 in
theorem wordUnpack_ok (x A S T : Nat) (d : Int) (w : World) (hx : x < 4294967296) (ho : Unit → podd x = true) (hA : Unit → turn8 x = A) (hS : Unit → x / 256 % 4 = S) (hT : Unit → x / 536870912 % 4 = T) (hd : Unit → pdata x = d) :
    Calls Try.prog 33 #[.int .u32 x] w fun e w' => e = .returned (.tuple #[.agg #[.int .i64 A, .int .i64 S, .int .i64 T, .int .i64 d], errV 0]) ∧ Below w.heap.size w w' := by
  have f1 : bits .and .u32 ((x : Int) / 1024) 524287 = ((x / 1024 % 524288 : Nat) : Int) := mask_at x 19 1024 _ hx (by omega) rfl
  have f2 : bits .and .u32 (x : Int) 255 = ((x % 256 : Nat) : Int) := u32_mask x 8 hx (by omega)
  have f3 : bits .and .u32 ((x : Int) / 256) 3 = ((x / 256 % 4 : Nat) : Int) := mask_at x 2 256 _ hx (by omega) rfl
  have f4 : bits .and .u32 ((x : Int) / 536870912) 3 = ((x / 536870912 % 4 : Nat) : Int) := mask_at x 2 536870912 _ hx (by omega) rfl
  rw [hS ()] at f3
  rw [hT ()] at f4
  have hS4 : S < 4 := by rw [← hS ()]; omega
  have hT4 : T < 4 := by rw [← hT ()]; omega
  have hA4 : A < 256 := by rw [← hA ()]; exact turn8_lt x
  have hL : Unit → turn8 (x % 256) = A := fun _ => (turn8_mod x).trans (hA ())
  have hL4 : x % 256 < 256 := by omega
  have hD4 : x / 1024 % 524288 < 524288 := by omega
  generalize hD : x / 1024 % 524288 = D at *
  have HD := Lib.hid hD
  clear hD
  generalize x % 256 = L at *
  have hd2 : Unit → pdata x = d := hd
  clear hS hT hA
  by_cases hlt : 262143 < D
  · have hdd : Hid ((D : Int) - 524288 = d) := by rw [Hid, ← hd (), pdata_hi HD hlt]
    clear hd hd2
    go_enter Try.func33, Try.ntmps33
    go_wp2_with (first | (go_at_call 127; ((with_reducible refine (wordOdd_is _ _ _ (by omega) ho).mono ?_); rintro e w' ⟨rfl, rfl⟩)) | (go_at_call 128; ((with_reducible refine (wordTurned_is _ _ _ (by omega) hL).mono ?_); rintro e w' ⟨rfl, rfl⟩)))
    refine bodyPost_ret (v := .tuple #[.agg #[.int .i64 A, .int .i64 S, .int .i64 T, .int .i64 d], errV 0]) ?_ rfl ⟨rfl, by (repeat' (first | (with_reducible exact Below.refl _ _) | (with_reducible assumption) | (with_reducible refine Below.alloc ?_ ?_ _) | (with_reducible refine Below.drew ?_) | (with_reducible refine below_drewN ?_ _) | (with_reducible refine Below.setCell ?_ ?_ _) | (with_reducible refine Below.trans ?_ (Below.mono (by assumption) ?_)) | omega | (simp; omega) | (simp; done)))⟩
    simp [results, Try.results33, go_sem, errV, hdd.out]
  · have hdd : Hid ((D : Int) = d) := by rw [Hid, ← hd (), pdata_lo HD hlt]
    clear hd hd2
    go_enter Try.func33, Try.ntmps33
    go_wp2_with (first | (go_at_call 127; ((with_reducible refine (wordOdd_is _ _ _ (by omega) ho).mono ?_); rintro e w' ⟨rfl, rfl⟩)) | (go_at_call 128; ((with_reducible refine (wordTurned_is _ _ _ (by omega) hL).mono ?_); rintro e w' ⟨rfl, rfl⟩)))
    refine bodyPost_ret (v := .tuple #[.agg #[.int .i64 A, .int .i64 S, .int .i64 T, .int .i64 d], errV 0]) ?_ rfl ⟨rfl, by (repeat' (first | (with_reducible exact Below.refl _ _) | (with_reducible assumption) | (with_reducible refine Below.alloc ?_ ?_ _) | (with_reducible refine Below.drew ?_) | (with_reducible refine below_drewN ?_ _) | (with_reducible refine Below.setCell ?_ ?_ _) | (with_reducible refine Below.trans ?_ (Below.mono (by assumption) ?_)) | omega | (simp; omega) | (simp; done)))⟩
    simp [results, Try.results33, go_sem, errV, hdd.out]
end Go.Proofs.Ytdfpenjhpemokaa
