/-
  The closed facts of the laws of package fulmartop: awake, fixed.
-/
import Derived.Test.YtdfpenjhpemokaaWord5
set_option linter.unusedVariables false
set_option linter.unusedSimpArgs false
namespace Go.Proofs.Ytdfpenjhpemokaa
open Go.RowKit
theorem refWord_is (l s t Q : Nat) (d : Int) (w : World) (h1 : l < 256) (h2 : s < 4) (h3 : t < 4) (h4 : -262144 ≤ d) (h5 : d ≤ 262143) (h : Unit → pword (turn8 l) s t (bits19 d) = Q) : Calls Try.prog 36 #[.agg #[.int .i64 l, .int .i64 s, .int .i64 t, .int .i64 d]] w fun e w' => e = .returned (.int .u32 Q) ∧ Below w.heap.size w w' := by
  rw [← h ()]; exact refWord l s t d w h1 h2 h3 h4 h5
theorem wordPack_is (l s t Q : Nat) (d : Int) (w : World) (h1 : l < 256) (h2 : s < 4) (h3 : t < 4) (h4 : -262144 ≤ d) (h5 : d ≤ 262143) (h : Unit → pword (turn8 l) s t (bits19 d) = Q) : Calls Try.prog 37 #[.agg #[.int .i64 l, .int .i64 s, .int .i64 t, .int .i64 d]] w fun e w' =>
    e = .returned (.tuple #[.int .u32 Q, errV 0]) ∧ Below w.heap.size w w' := by
  rw [← h ()]; exact wordPack l s t d w h1 h2 h3 h4 h5
theorem fixMul_is (a b m : Int) (w : World) (h : Unit → pmul a b = m) : Calls Try.prog 68 #[.int .i64 a, .int .i64 b] w fun e w' => e = .returned (.int .i64 m) ∧ w = w' := by
  rw [← h ()]; exact fixMul a b w
theorem awake_pack (w : World) : Calls Try.prog 37 #[.agg #[.int .i64 1, .int .i64 0, .int .i64 3, .int .i64 (-1)]] w fun e w' =>
    e = .returned (.tuple #[.int .u32 4294966400, errV 0]) ∧ Below w.heap.size w w' :=
  wordPack_is 1 0 3 4294966400 (-1) w (by omega) (by omega) (by omega) (by omega) (by omega) (fun _ => by decide +kernel)

set_option maxHeartbeats 400000 in
theorem topAwake (w : World) : Calls Try.prog 87 #[] w fun e w' => e = .returned (.bool true) ∧ Below w.heap.size w w' := by
  have hm : Unit → pmul 768 128 = 384 := fun _ => by decide +kernel
  go_enter Try.func87, Try.ntmps87
  go_wp2_with (first | (go_at_call 37; ((with_reducible refine (awake_pack _).mono ?_); rintro e w1 ⟨rfl, hb1⟩; have hz1 := hb1.size; (repeat (first | simp only [World.size_alloc] at hz1 | simp only [World.size_drew] at hz1 | simp only [World.size_setCell] at hz1)); have hB1 : Below w.heap.size w w1 := by (repeat' (first | (with_reducible exact Below.refl _ _) | (with_reducible assumption) | (with_reducible refine Below.alloc ?_ ?_ _) | (with_reducible refine Below.drew ?_) | (with_reducible refine below_drewN ?_ _) | (with_reducible refine Below.setCell ?_ ?_ _) | (with_reducible refine Below.trans ?_ (Below.mono (by assumption) ?_)) | omega | (simp; omega) | (simp; done)))); clear hb1) | (go_at_call 68; ((with_reducible refine (fixMul_is _ _ 384 _ hm).mono ?_); rintro e w' ⟨rfl, rfl⟩)))
  go_ret
  exact ⟨rfl, by (repeat' (first | (with_reducible exact Below.refl _ _) | (with_reducible assumption) | (with_reducible refine Below.alloc ?_ ?_ _) | (with_reducible refine Below.drew ?_) | (with_reducible refine below_drewN ?_ _) | (with_reducible refine Below.setCell ?_ ?_ _) | (with_reducible refine Below.trans ?_ (Below.mono (by assumption) ?_)) | omega | (simp; omega) | (simp; done)))⟩

theorem topFixed (w : World) : Calls Try.prog 66 #[] w fun e w' => e = .returned (.bool true) ∧ w = w' := by
  have hm : Unit → pmul 768 128 = 384 := fun _ => by decide +kernel
  go_enter Try.func66, Try.ntmps66
  go_wp2_with (first | (go_at_call 68; ((with_reducible refine (fixMul_is _ _ 384 _ hm).mono ?_); rintro e w' ⟨rfl, rfl⟩)))
  go_ret
  exact ⟨rfl, rfl⟩

/-! A word read back. -/
theorem popN_low (n : Nat) : ∀ x y, popN n (x + 2 ^ n * y) = popN n x := by
  induction n with
  | zero => intro x y; rfl
  | succ n ih =>
    intro x y
    have e : 2 ^ (n + 1) * y = 2 * (2 ^ n * y) := by rw [Nat.pow_succ, Nat.mul_comm (2 ^ n) 2, Nat.mul_assoc]
    simp only [popN]
    rw [e, show (x + 2 * (2 ^ n * y)) % 2 = x % 2 by omega, show (x + 2 * (2 ^ n * y)) / 2 = x / 2 + 2 ^ n * y by omega, ih]
theorem podd_add31 (V : Nat) (hV : V < 2147483648) : podd (add31 V) = !podd V := by
  have e1 : popN 32 (add31 V) = popN 31 V + 1 := by
    rw [popN_snoc, show add31 V = V + 2 ^ 31 * 1 by rfl, popN_low, show (V + 2 ^ 31 * 1) / 2 ^ 31 % 2 = 1 by omega]
  have e2 : popN 32 V = popN 31 V := by rw [popN_snoc, show V / 2 ^ 31 % 2 = 0 by omega, Nat.add_zero]
  unfold podd
  rw [e1, e2, Bool.eq_iff_iff]
  simp
  omega
theorem pword_odd (T s t D : Nat) (h1 : T < 256) (h2 : s < 4) (h3 : t < 4) (h4 : D < 524288) : podd (pword T s t D) = true := by
  have hV : T + s * 256 + D * 1024 + t * 536870912 < 2147483648 := by omega
  unfold pword
  generalize T + s * 256 + D * 1024 + t * 536870912 = V at *
  split
  · assumption
  · rw [podd_add31 V hV]; simp_all
theorem pword_cases (T s t D : Nat) : ∃ y, pword T s t D = T + s * 256 + D * 1024 + t * 536870912 + y * 2147483648 ∧ y ≤ 1 := by
  unfold pword
  split
  · exact ⟨0, by omega, by omega⟩
  · exact ⟨1, by unfold add31; omega, by omega⟩
theorem pword_lt (T s t D : Nat) (h1 : T < 256) (h2 : s < 4) (h3 : t < 4) (h4 : D < 524288) : pword T s t D < 4294967296 := by
  obtain ⟨y, h, hy⟩ := pword_cases T s t D; omega
theorem pword_label (l s t D : Nat) (h0 : l < 256) (h2 : s < 4) (h3 : t < 4) (h4 : D < 524288) : turn8 (pword (turn8 l) s t D) = l := by
  obtain ⟨y, h, hy⟩ := pword_cases (turn8 l) s t D
  have hT := turn8_lt l
  rw [← turn8_mod, show pword (turn8 l) s t D % 256 = turn8 l by omega, turn8_turn8 l h0]
theorem pword_source (T s t D : Nat) (h1 : T < 256) (h2 : s < 4) (h3 : t < 4) (h4 : D < 524288) : pword T s t D / 256 % 4 = s := by
  obtain ⟨y, h, hy⟩ := pword_cases T s t D; omega
theorem pword_status (T s t D : Nat) (h1 : T < 256) (h2 : s < 4) (h3 : t < 4) (h4 : D < 524288) : pword T s t D / 536870912 % 4 = t := by
  obtain ⟨y, h, hy⟩ := pword_cases T s t D; omega
theorem pword_data (T s t : Nat) (d : Int) (h1 : T < 256) (h2 : s < 4) (h3 : t < 4) (h4 : -262144 ≤ d) (h5 : d ≤ 262143) : pdata (pword T s t (bits19 d)) = d := by
  obtain ⟨y, h, hy⟩ := pword_cases T s t (bits19 d)
  have hb := bits19_lt d
  have e : pword T s t (bits19 d) / 1024 % 524288 = bits19 d := by omega
  unfold pdata
  rw [e]
  have hd : (bits19 d : Int) = d % 524288 := by unfold bits19; omega
  split <;> omega
theorem podd_xor (a b : Nat) (ha : podd a = true) : podd (a ^^^ b) = !podd b := by
  have h := popN_xor 32 a b
  have e : popN 32 a % 2 = 1 := by unfold podd at ha; simpa using ha
  unfold podd
  rw [Bool.eq_iff_iff]
  simp
  omega
end Go.Proofs.Ytdfpenjhpemokaa
