/-
  Package word and its reference: turned, odd; bit, Odd.
-/
import Derived.Test.YtdfpenjhpemokaaKit
import Derived.Test.YtdfpenjhpemokaaWordPl
set_option linter.unusedVariables false
set_option linter.unusedSimpArgs false
namespace Go.Proofs.Ytdfpenjhpemokaa
open Go.RowKit

theorem ret_u32 {a b : Int} (h : a = b) : Value.int .u32 a = .int .u32 b := by rw [h]

set_option maxHeartbeats 400000 in
theorem wordTurned (x : Nat) (w : World) (hx : x < 4294967296) : Calls Try.prog 128 #[.int .u32 x] w fun e w' => e = .returned (.int .u32 (turn8 x : Nat)) ∧ w = w' := by
  go_enter Try.func128, Try.ntmps128
  go_wp2
  go_loop [0, 3, 4] (fun a y i => ∃ k : Nat, k ≤ 8 ∧ i = .int .i64 k ∧ a = .int .u32 ((x / 2 ^ k : Nat) : Int) ∧ y = .int .u32 ((rev x k : Nat) : Int)) (fun _ _ i => 8 - (intOf i).toNat)
  case atStart => exact ⟨0, by omega, rfl, by simp, rfl⟩
  case round =>
    obtain ⟨k, hk, rfl, rfl, rfl⟩ := hrel
    have hX : x / 2 ^ k < 4294967296 := Nat.lt_of_le_of_lt (Nat.div_le_self _ _) hx
    have e1 : Hid ((x / 2 ^ (k + 1) : Nat) = x / 2 ^ k / 2) := by unfold Hid; rw [Nat.pow_succ, Nat.div_div_eq_div_mul]
    have e2 : Hid (rev x (k + 1) = 2 * rev x k + x / 2 ^ k % 2) := rfl
    have e3 : Hid (k = 8 → rev x k = turn8 x) := fun h => by subst h; exact rev8 x
    have hR := rev_lt x k
    have hR2 : k < 8 → rev x k < 128 := fun h => Nat.lt_of_lt_of_le hR (Nat.pow_le_pow_right (n := 2) (by omega) (show k ≤ 7 by omega))
    have HR := Lib.hid hR2
    clear hR hR2
    generalize x / 2 ^ k = X at *
    generalize rev x k = R at *
    by_cases hlt : k < 8
    · have hRs := rev_step R X (HR.out hlt) hX
      have HRS := Lib.hid hRs
      clear hRs
      go_wp2
      go_round
      case rel => exact ⟨k + 1, by omega, by go_num, by rw [e1.out, Int.natCast_ediv]; rfl, by rw [e2.out]; exact ret_u32 HRS.out⟩
      case measure => simp [intOf]; omega
    · go_wp2
      go_ret
      exact ⟨ret_int (by rw [e3.out (by omega)]), rfl⟩

set_option maxHeartbeats 400000 in
theorem wordOdd (x : Nat) (w : World) (hx : x < 4294967296) : Calls Try.prog 127 #[.int .u32 x] w fun e w' => e = .returned (.bool (podd x)) ∧ w = w' := by
  have hE : Hid (podd x = (popN 32 x % 2 == 1)) := rfl
  generalize podd x = q at *
  go_enter Try.func127, Try.ntmps127
  go_wp2
  go_loop [0, 3] (fun a n => ∃ v c : Nat, a = .int .u32 v ∧ n = .int .i64 c ∧ v < 4294967296 ∧ c ≤ 32 ∧ Hid (c + popN 32 v = popN 32 x)) (fun a _ => (intOf a).toNat)
  case atStart => exact ⟨x, 0, rfl, rfl, hx, by omega, Nat.zero_add _⟩
  case round =>
    obtain ⟨v, c, rfl, rfl, hv, hc, hs⟩ := hrel
    have hle := popN_le 32 x
    by_cases h0 : 0 < v
    · have h1 : Hid (bits .and .u32 (v : Int) ((v : Int) - 1) = ((v &&& (v - 1) : Nat) : Int)) := by
        unfold Hid
        rw [show (v : Int) - 1 = ((v - 1 : Nat) : Int) by omega]
        exact u32_and v (v - 1) hv (by omega)
      have h2 := popN_strike 32 v h0 hv
      have h3 : v &&& (v - 1) ≤ v - 1 := Nat.and_le_right
      have h4 : Hid (c + 1 + popN 32 (v &&& (v - 1)) = popN 32 x) := by have := hs.out; unfold Hid; omega
      have h5 : c + 1 ≤ 32 := by have := h4.out; omega
      clear h2 hle hs
      generalize v &&& (v - 1) = v' at *
      go_wp2
      go_round
      case rel => exact ⟨v', c + 1, by rw [h1.out], by go_num, by omega, h5, h4⟩
      case measure => rw [h1.out]; simp [intOf]; omega
    · obtain rfl : v = 0 := by omega
      have hc2 : Hid (c = popN 32 x) := by have := hs.out; rw [popN_zero] at this; unfold Hid; omega
      have hd : Hid (((c : Int) % 2 == 1) = q) := by
        unfold Hid
        rw [hE.out, ← hc2.out, Bool.eq_iff_iff]
        simp
        omega
      clear hs hle hE
      go_wp2
      go_ret
      exact ⟨ret_bool hd.out, rfl⟩

theorem refBit (x i : Int) (w : World) (h0 : 0 ≤ x) (h1 : x ≤ 4294967295) (h2 : 0 ≤ i) (h3 : i ≤ 31) : Calls Try.prog 126 #[.int .i64 x, .int .i64 i] w fun e w' => e = .returned (.int .i64 (x / 2 ^ i.toNat % 2)) ∧ w = w' := by
  go_enter Try.func126, Try.ntmps126
  go_wp2
  go_ret
  have hb := ediv_pow_bd x i.toNat h0
  exact ⟨ret_int (i64_low _ hb.1 (by omega)), rfl⟩
set_option maxHeartbeats 400000 in
theorem refOdd (x : Nat) (w : World) (hx : x < 4294967296) : Calls Try.prog 31 #[.int .u32 x] w fun e w' => e = .returned (.bool (podd x)) ∧ w = w' := by
  have hE : Hid (podd x = (popN 32 x % 2 == 1)) := rfl
  generalize podd x = q at *
  go_enter Try.func31, Try.ntmps31
  go_wp2
  go_loop [3, 4] (fun n i => ∃ k : Nat, k ≤ 32 ∧ i = .int .i64 k ∧ n = .int .i64 ((popN k x : Nat) : Int)) (fun _ i => 32 - (intOf i).toNat)
  case atStart => exact ⟨0, by omega, rfl, rfl⟩
  case round =>
    obtain ⟨k, hk, rfl, rfl⟩ := hrel
    have e1 : Hid (popN (k + 1) x = popN k x + x / 2 ^ k % 2) := popN_snoc k x
    have e2 : Hid (k = 32 → popN k x = popN 32 x) := fun h => by rw [h]
    have hl := popN_le k x
    generalize popN k x = c at *
    by_cases hlt : k < 32
    · go_wp2_with (go_at_call 126; ((with_reducible refine (refBit _ _ _ (by omega) (by omega) (by omega) (by omega)).mono ?_); rintro e w' ⟨rfl, rfl⟩))
      go_round
      case rel => exact ⟨k + 1, by omega, by go_num, by rw [e1.out, Int.natCast_add, ← ebit]⟩
      case measure => simp [intOf]; omega
    · have hd : Hid (((c : Int) % 2 == 1) = q) := by
        unfold Hid
        rw [hE.out, ← e2.out (by omega), Bool.eq_iff_iff]
        simp
        omega
      clear e2 hE
      go_wp2
      go_ret
      exact ⟨ret_bool hd.out, rfl⟩

end Go.Proofs.Ytdfpenjhpemokaa
