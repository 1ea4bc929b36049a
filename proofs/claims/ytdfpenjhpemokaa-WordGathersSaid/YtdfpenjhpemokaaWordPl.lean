/-
  Plain facts on words: the number of ones, eight bits turned round, a word put together bit by bit. No program in sight.
-/
import Derived.WalkKit
import Derived.Laws.BitsLemmas
import Derived.Laws.DeepBits32
set_option linter.unusedVariables false
set_option linter.unusedSimpArgs false
namespace Go.Proofs.Ytdfpenjhpemokaa
open Go.RowKit

def popN : Nat → Nat → Nat
  | 0, _ => 0
  | n + 1, x => x % 2 + popN n (x / 2)

theorem popN_zero (n : Nat) : popN n 0 = 0 := by
  induction n with
  | zero => rfl
  | succ n ih => simp [popN, ih]
theorem popN_le (n : Nat) : ∀ x, popN n x ≤ n := by
  induction n with
  | zero => intro x; exact Nat.le_refl _
  | succ n ih => intro x; have := ih (x / 2); simp only [popN]; omega

theorem and_pred_odd (k : Nat) : (2 * k + 1) &&& (2 * k) = 2 * k := by
  apply Nat.eq_of_testBit_eq
  intro i
  rw [Nat.testBit_and]
  cases i with
  | zero => simp [Nat.testBit_zero]
  | succ i => simp [Nat.testBit_succ, show (2 * k + 1) / 2 = k by omega]
theorem and_pred_even (k : Nat) (h : 0 < k) : (2 * k) &&& (2 * k - 1) = 2 * (k &&& (k - 1)) := by
  apply Nat.eq_of_testBit_eq
  intro i
  rw [Nat.testBit_and]
  cases i with
  | zero => simp [Nat.testBit_zero]
  | succ i => simp [Nat.testBit_succ, show (2 * k - 1) / 2 = k - 1 by omega, Nat.testBit_and]

theorem popN_strike (n : Nat) : ∀ x, 0 < x → x < 2 ^ n → popN n (x &&& (x - 1)) + 1 = popN n x := by
  induction n with
  | zero => intro x h1 h2; simp at h2; omega
  | succ n ih =>
    intro x h1 h2
    rcases Nat.mod_two_eq_zero_or_one x with h | h
    · obtain ⟨k, rfl⟩ : ∃ k, x = 2 * k := ⟨x / 2, by omega⟩
      rw [and_pred_even k (by omega)]
      have := ih k (by omega) (by rw [Nat.pow_succ] at h2; omega)
      simp only [popN]
      rw [show 2 * (k &&& (k - 1)) % 2 = 0 by omega, show 2 * (k &&& (k - 1)) / 2 = k &&& (k - 1) by omega, show 2 * k % 2 = 0 by omega, show 2 * k / 2 = k by omega]
      omega
    · obtain ⟨k, rfl⟩ : ∃ k, x = 2 * k + 1 := ⟨x / 2, by omega⟩
      rw [show 2 * k + 1 - 1 = 2 * k by omega, and_pred_odd]
      simp only [popN]
      rw [show 2 * k % 2 = 0 by omega, show 2 * k / 2 = k by omega, show (2 * k + 1) % 2 = 1 by omega, show (2 * k + 1) / 2 = k by omega]
      omega

theorem and_le_left (a b : Nat) : a &&& b ≤ a := Nat.and_le_left

theorem popN_snoc (n : Nat) : ∀ x, popN (n + 1) x = popN n x + x / 2 ^ n % 2 := by
  induction n with
  | zero => intro x; simp [popN]
  | succ n ih =>
    intro x
    rw [popN, ih, popN]
    rw [Nat.div_div_eq_div_mul, show 2 * 2 ^ n = 2 ^ (n + 1) by rw [Nat.pow_succ]; omega]
    omega

def turn8 (x : Nat) : Nat := x / 2 ^ 0 % 2 * 128 + x / 2 ^ 1 % 2 * 64 + x / 2 ^ 2 % 2 * 32 + x / 2 ^ 3 % 2 * 16 + x / 2 ^ 4 % 2 * 8 + x / 2 ^ 5 % 2 * 4 + x / 2 ^ 6 % 2 * 2 + x / 2 ^ 7 % 2 * 1
theorem turn8_lt (x : Nat) : turn8 x < 256 := by
  unfold turn8
  have h0 := Nat.mod_lt (x / 2 ^ 0) (y := 2) (by omega)
  have h1 := Nat.mod_lt (x / 2 ^ 1) (y := 2) (by omega)
  have h2 := Nat.mod_lt (x / 2 ^ 2) (y := 2) (by omega)
  have h3 := Nat.mod_lt (x / 2 ^ 3) (y := 2) (by omega)
  have h4 := Nat.mod_lt (x / 2 ^ 4) (y := 2) (by omega)
  have h5 := Nat.mod_lt (x / 2 ^ 5) (y := 2) (by omega)
  have h6 := Nat.mod_lt (x / 2 ^ 6) (y := 2) (by omega)
  have h7 := Nat.mod_lt (x / 2 ^ 7) (y := 2) (by omega)
  omega
def rev (x : Nat) : Nat → Nat
  | 0 => 0
  | k + 1 => 2 * rev x k + x / 2 ^ k % 2
theorem rev_lt (x : Nat) : ∀ k, rev x k < 2 ^ k
  | 0 => by simp [rev]
  | k + 1 => by have := rev_lt x k; simp only [rev, Nat.pow_succ]; omega
theorem rev8 (x : Nat) : rev x 8 = turn8 x := by
  simp only [rev, turn8]
  generalize x / 2 ^ 0 % 2 = b0
  generalize x / 2 ^ 1 % 2 = b1
  generalize x / 2 ^ 2 % 2 = b2
  generalize x / 2 ^ 3 % 2 = b3
  generalize x / 2 ^ 4 % 2 = b4
  generalize x / 2 ^ 5 % 2 = b5
  generalize x / 2 ^ 6 % 2 = b6
  generalize x / 2 ^ 7 % 2 = b7
  omega

theorem u32_nat (op : BinOp) (f : Nat → Nat → Nat) (a b : Nat) (ha : a < 4294967296) (hb : b < 4294967296) (hf : f a b < 4294967296)
    (h : ∀ x y : BitVec 32, (match op with | .and => x &&& y | .or => x ||| y | .xor => x ^^^ y | _ => x &&& ~~~y).toNat = f x.toNat y.toNat) : bits op .u32 (a : Int) (b : Int) = ((f a b : Nat) : Int) := by
  have h1 : (BitVec.ofInt 32 (a : Int)).toNat = a := by rw [BitVec.ofInt_natCast, BitVec.toNat_ofNat]; exact Nat.mod_eq_of_lt ha
  have h2 : (BitVec.ofInt 32 (b : Int)).toNat = b := by rw [BitVec.ofInt_natCast, BitVec.toNat_ofNat]; exact Nat.mod_eq_of_lt hb
  have h3 := h (BitVec.ofInt 32 (a : Int)) (BitVec.ofInt 32 (b : Int))
  rw [h1, h2] at h3
  show IntKind.u32.wrap (_ : Nat) = _
  rw [IntKind.wrap_u32]
  have : ∀ n : Nat, n = f a b → ((n : Nat) : Int) % 4294967296 = (f a b : Nat) := by intro n hn; subst hn; omega
  exact this _ h3
theorem u32_and (a b : Nat) (ha : a < 4294967296) (hb : b < 4294967296) : bits .and .u32 (a : Int) (b : Int) = ((a &&& b : Nat) : Int) :=
  u32_nat .and (· &&& ·) a b ha hb (Nat.lt_of_le_of_lt Nat.and_le_left ha) (fun x y => BitVec.toNat_and x y)
theorem u32_or (a b : Nat) (ha : a < 4294967296) (hb : b < 4294967296) : bits .or .u32 (a : Int) (b : Int) = ((a ||| b : Nat) : Int) :=
  u32_nat .or (· ||| ·) a b ha hb (Nat.or_lt_two_pow (n := 32) ha hb) (fun x y => BitVec.toNat_or x y)
theorem u32_mask (a m : Nat) (ha : a < 4294967296) (hm : m ≤ 31) : bits .and .u32 (a : Int) ((2 ^ m - 1 : Nat) : Int) = ((a % 2 ^ m : Nat) : Int) := by
  have : 2 ^ m ≤ 2 ^ 31 := Nat.pow_le_pow_right (by omega) hm
  rw [u32_and a (2 ^ m - 1) ha (by omega), Nat.and_two_pow_sub_one_eq_mod]
theorem u32_low (a : Nat) (ha : a < 4294967296) : bits .and .u32 (a : Int) 1 = ((a % 2 : Nat) : Int) := u32_mask a 1 ha (by omega)

theorem rev_step (R X : Nat) (hR : R < 128) (hX : X < 4294967296) : bits .or .u32 (IntKind.u32.wrap ((R : Int) * 2)) (bits .and .u32 (X : Int) 1) = ((2 * R + X % 2 : Nat) : Int) := by
  rw [u32_low X hX, IntKind.wrap_u32, show (R : Int) * 2 % 4294967296 = ((2 * R : Nat) : Int) by omega, u32_or _ _ (by omega) (by omega), or_bit (2 * R) (X % 2) (by omega) (by omega)]

theorem ebit (x i : Nat) : ((x : Int) / 2 ^ i % 2) = ((x / 2 ^ i % 2 : Nat) : Int) := by
  rw [Int.natCast_emod, Int.natCast_ediv, Int.natCast_pow]; rfl
theorem wraps_i64 (n : Int) (h0 : 0 ≤ n) (h1 : n < 2 ^ 32) : IntKind.i64.wrap n = n := by rw [IntKind.wrap_i64]; omega
theorem i64_low (x : Int) (h0 : 0 ≤ x) (h1 : x < 4294967296) : bits .and .i64 x 1 = x % 2 := bits_mask .i64 32 (by decide) wraps_i64 1 (by decide) x h0 h1
theorem ediv_pow_bd (x : Int) (i : Nat) (h0 : 0 ≤ x) : 0 ≤ x / 2 ^ i ∧ x / 2 ^ i ≤ x :=
  ⟨Int.ediv_nonneg h0 (Int.le_of_lt (Int.pow_pos (by omega))), Int.ediv_le_self _ h0⟩
def podd (x : Nat) : Bool := popN 32 x % 2 == 1
theorem two_pow_cast (k : Nat) : (2 : Int) ^ k = ((2 ^ k : Nat) : Int) := by simp
theorem mod_snoc (s k : Nat) : s % 2 ^ (k + 1) = s % 2 ^ k + 2 ^ k * (s / 2 ^ k % 2) := by rw [Nat.mod_pow_succ]
end Go.Proofs.Ytdfpenjhpemokaa
