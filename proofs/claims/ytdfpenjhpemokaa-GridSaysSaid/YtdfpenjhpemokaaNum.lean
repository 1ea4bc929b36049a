/-
  Division rounded down, and to the nearest: the reference's Down and Up.
-/
import Derived.Test.YtdfpenjhpemokaaErr2
set_option linter.unusedVariables false
set_option linter.unusedSimpArgs false
namespace Go.Proofs.Ytdfpenjhpemokaa
open Go.RowKit

theorem down_exact (n d : Int) (hd : 0 < d) : (n - n % d).tdiv d = n / d := by
  have h : n - n % d = d * (n / d) := by have := Int.emod_add_mul_ediv n d; omega
  rw [h, Int.mul_tdiv_cancel_left _ (by omega)]
theorem down_exact2 (n d : Int) (hd : 0 < d) : (n - n % d) / d = n / d := by
  have h : n - n % d = d * (n / d) := by have := Int.emod_add_mul_ediv n d; omega
  rw [h, Int.mul_ediv_cancel_left _ (by omega)]
theorem div_bd (n d : Int) (B : Int) (hd : 0 < d) (h1 : -B ≤ n) (h2 : n ≤ B) (hB : 0 ≤ B) : -B - 1 ≤ n / d ∧ n / d ≤ B := by
  constructor
  · have : (-B - 1) ≤ n / d := by
      rw [Int.le_ediv_iff_mul_le hd]
      have : (-B - 1) * d ≤ (-B - 1) * 1 := Int.mul_le_mul_of_nonpos_left (by omega) (by omega)
      omega
    exact this
  · apply Int.ediv_le_of_le_mul hd
    have : B * 1 ≤ B * d := Int.mul_le_mul_of_nonneg_left (by omega) hB
    omega

theorem refDown (n d : Int) (w : World) (hd : 0 < d) (hd2 : d ≤ 9000000000000) (h1 : -9000000000000000000 ≤ n) (h2 : n ≤ 9000000000000000000) :
    Calls Try.prog 142 #[.int .i64 n, .int .i64 d] w fun e w' => e = .returned (.int .i64 (n / d)) ∧ w = w' := by
  have m0 := Int.emod_nonneg n (b := d) (by omega)
  have m1 := Int.emod_lt_of_pos n hd
  have hb := div_bd n d 9000000000000000000 hd (by omega) (by omega) (by omega)
  obtain ⟨b1, b2⟩ := hb
  have hE := Lib.hid (down_exact n d hd)
  have hE2 := Lib.hid (down_exact2 n d hd)
  go_enter Try.func142, Try.ntmps142
  go_wp2_with (go_at_call 64; ((with_reducible refine (refPick _ _ _ hd (by omega)).mono ?_); rintro e w' ⟨rfl, rfl⟩))
  go_ret
  exact ⟨ret_int hE.out, rfl⟩

def pup2 (n d : Int) : Int := (2 * n + d) / (2 * d)
theorem refUp (n d : Int) (w : World) (hd : 0 < d) (hd2 : d ≤ 4000000000000) (h1 : -4400000000000000000 ≤ n) (h2 : n ≤ 4400000000000000000) :
    Calls Try.prog 148 #[.int .i64 n, .int .i64 d] w fun e w' => e = .returned (.int .i64 (pup2 n d)) ∧ w = w' := by
  go_enter Try.func148, Try.ntmps148
  go_wp2_with (go_at_call 142; ((with_reducible refine (refDown _ _ _ (by omega) (by omega) (by omega) (by omega)).mono ?_); rintro e w' ⟨rfl, rfl⟩))
  go_ret
  exact ⟨rfl, rfl⟩

theorem quo_neg {n d : Int} (hd : 0 < d) (h : n < 0) : (n.tmod d < 0 ∧ n.tdiv d - 1 = n / d) ∨ (¬ n.tmod d < 0 ∧ n.tdiv d = n / d) := by
  have e1 := Int.emod_add_mul_ediv n d
  have e2 := Int.tmod_add_mul_tdiv n d
  have m0 := Int.emod_nonneg n (b := d) (by omega)
  have m1 := Int.emod_lt_of_pos n hd
  rcases pick_neg n d hd h with ⟨h3, h4, h5⟩ | ⟨h3, h4⟩
  · left
    refine ⟨h3, ?_⟩
    have : d * (n / d) = d * (n.tdiv d - 1) := by rw [Int.mul_sub]; omega
    exact (Int.eq_of_mul_eq_mul_left (by omega) this).symm
  · right
    refine ⟨by omega, ?_⟩
    have : d * (n / d) = d * (n.tdiv d) := by omega
    exact (Int.eq_of_mul_eq_mul_left (by omega) this).symm
theorem tableDown (n d : Int) (w : World) (hd : 0 < d) (hd2 : d ≤ 9000000000000) (h1 : -9000000000000000000 ≤ n) (h2 : n ≤ 9000000000000000000) :
    Calls Try.prog 172 #[.int .i64 n, .int .i64 d] w fun e w' => e = .returned (.int .i64 (n / d)) ∧ w = w' := by
  have hb := div_bd n d 9000000000000000000 hd (by omega) (by omega) (by omega)
  obtain ⟨b1, b2⟩ := hb
  by_cases hn : 0 ≤ n
  · have m0 := Int.emod_nonneg n (b := d) (by omega)
    go_enter Try.func172, Try.ntmps172
    go_wp2_with fail
    go_ret
    exact ⟨rfl, rfl⟩
  · rcases quo_neg hd (by omega : n < 0) with ⟨h3, h4⟩ | ⟨h3, h4⟩
    · have H4 := Lib.hid h4
      have b3 : -9000000000000000001 ≤ n.tdiv d := by omega
      have b4 : n.tdiv d ≤ 9000000000000000001 := by omega
      clear h4
      go_enter Try.func172, Try.ntmps172
      go_wp2_with fail
      go_ret
      exact ⟨ret_int H4.out, rfl⟩
    · have H4 := Lib.hid h4
      clear h4
      go_enter Try.func172, Try.ntmps172
      go_wp2_with fail
      go_ret
      exact ⟨ret_int H4.out, rfl⟩
theorem tableNear (n d : Int) (w : World) (hd : 0 < d) (hd2 : d ≤ 4000000000000) (h1 : -4400000000000000000 ≤ n) (h2 : n ≤ 4400000000000000000) :
    Calls Try.prog 154 #[.int .i64 n, .int .i64 d] w fun e w' => e = .returned (.int .i64 (pup2 n d)) ∧ w = w' := by
  go_enter Try.func154, Try.ntmps154
  go_wp2_with (go_at_call 172; ((with_reducible refine (tableDown _ _ _ (by omega) (by omega) (by omega) (by omega)).mono ?_); rintro e w' ⟨rfl, rfl⟩))
  go_ret
  exact ⟨rfl, rfl⟩
end Go.Proofs.Ytdfpenjhpemokaa
