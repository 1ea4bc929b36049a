/-
  The plain law of braking: how far it goes at most, moved by s in this frame, and then less and less. No program in sight.
-/
import Derived.Test.YtdfpenjhpemokaaPl
set_option linter.unusedVariables false
set_option linter.unusedSimpArgs false
namespace Go.Proofs.Ytdfpenjhpemokaa
open Go.RowKit

theorem tri_even (k : Int) : ∃ t, k * (k + 1) = 2 * t := by
  rcases Int.emod_two_eq k with h | h
  · obtain ⟨m, hm⟩ : ∃ m, k = 2 * m := ⟨k / 2, by omega⟩
    exact ⟨m * (k + 1), by rw [← Int.mul_assoc, ← hm]⟩
  · obtain ⟨m, hm⟩ : ∃ m, k + 1 = 2 * m := ⟨(k + 1) / 2, by omega⟩
    exact ⟨k * m, by rw [hm, Int.mul_left_comm]⟩

def pbrake (push rate s : Int) : Int := if s + push ≤ 0 then 0 else ((s + push) / rate + 1) * (s + push) - rate * ((s + push) / rate) * ((s + push) / rate + 1) / 2

theorem pbrake_zero {push rate s : Int} (h : s + push ≤ 0) : pbrake push rate s = 0 := if_pos h

theorem half_tri (r k t : Int) (h : k * (k + 1) = 2 * t) : r * k * (k + 1) / 2 = r * t := by
  rw [Int.mul_assoc, h, Int.mul_left_comm]
  exact Int.mul_ediv_cancel_left _ (by omega)

theorem pbrake_step {push rate s : Int} (hr : 1 ≤ rate) (h : 0 < s + push) : pbrake push rate s = (s + push) + pbrake push rate (s - rate) := by
  obtain ⟨a, ha⟩ : ∃ a, a = s + push := ⟨_, rfl⟩
  have e2 : s - rate + push = a - rate := by omega
  unfold pbrake
  rw [e2, ← ha]
  rw [← ha] at h
  rw [if_neg (by omega)]
  have hk0 : 0 ≤ a / rate := Int.ediv_nonneg (by omega) (by omega)
  have hdm := Int.emod_add_mul_ediv a rate
  have hm0 := Int.emod_nonneg a (b := rate) (by omega)
  have hm1 := Int.emod_lt_of_pos a (b := rate) (by omega)
  by_cases h2 : a - rate ≤ 0
  · rw [if_pos h2]
    by_cases h3 : a = rate
    · have e : a / rate = 1 := by rw [h3]; exact Int.ediv_self (by omega)
      rw [e, h3]
      omega
    · have e : a / rate = 0 := Int.ediv_eq_zero_of_lt (by omega) (by omega)
      rw [e]
      simp
  · rw [if_neg h2]
    have e : (a - rate) / rate = a / rate - 1 := by
      have := Int.add_mul_ediv_right a (-1) (c := rate) (by omega)
      rw [Int.neg_one_mul] at this
      rw [Int.sub_eq_add_neg, this]
      omega
    rw [e]
    generalize a / rate = k at *
    obtain ⟨t, ht⟩ := tri_even k
    have ht' : (k - 1) * (k - 1 + 1) = 2 * (t - k) := by
      have : (k - 1) * (k - 1 + 1) = k * (k + 1) - 2 * k := by
        rw [Int.sub_add_cancel, Int.sub_mul, Int.mul_add]; omega
      omega
    rw [half_tri rate k t ht, half_tri rate (k - 1) (t - k) ht', Int.sub_add_cancel, Int.mul_sub, Int.mul_sub, Int.add_mul, Int.mul_comm k rate]
    omega

theorem pbrake_mono_n (push rate : Int) (hr : 1 ≤ rate) (n : Nat) : ∀ s t : Int, (t + push).toNat ≤ n → s ≤ t → 0 ≤ pbrake push rate s ∧ pbrake push rate s ≤ pbrake push rate t := by
  induction n with
  | zero =>
    intro s t hn hst
    rw [pbrake_zero (by omega : s + push ≤ 0), pbrake_zero (by omega : t + push ≤ 0)]
    omega
  | succ n ih =>
    intro s t hn hst
    by_cases ht : t + push ≤ 0
    · rw [pbrake_zero (by omega : s + push ≤ 0), pbrake_zero ht]
      omega
    · have h1 := ih (t - rate) (t - rate) (by omega) (by omega)
      rw [pbrake_step hr (by omega : 0 < t + push)]
      by_cases hs : s + push ≤ 0
      · rw [pbrake_zero hs]; omega
      · have h2 := ih (s - rate) (t - rate) (by omega) (by omega)
        rw [pbrake_step hr (by omega : 0 < s + push)]
        omega

theorem pbrake_nonneg {push rate : Int} (hr : 1 ≤ rate) (s : Int) : 0 ≤ pbrake push rate s := (pbrake_mono_n push rate hr _ s s (Nat.le_refl _) (by omega)).1
theorem pbrake_mono {push rate : Int} (hr : 1 ≤ rate) {s t : Int} (h : s ≤ t) : pbrake push rate s ≤ pbrake push rate t := (pbrake_mono_n push rate hr _ s t (Nat.le_refl _) h).2

theorem pbrake_parts {push rate s : Int} (hr : 1 ≤ rate) (hr2 : rate ≤ 4000) (h0 : 0 < s + push) (h1 : s + push ≤ 6000) :
    0 ≤ (s + push) / rate ∧ (s + push) / rate ≤ 6000 ∧ 0 ≤ ((s + push) / rate + 1) * (s + push) ∧ ((s + push) / rate + 1) * (s + push) ≤ 36006000 ∧ 0 ≤ rate * ((s + push) / rate) ∧ rate * ((s + push) / rate) ≤ 6000 ∧
      0 ≤ rate * ((s + push) / rate) * ((s + push) / rate + 1) ∧ rate * ((s + push) / rate) * ((s + push) / rate + 1) ≤ 36006000 := by
  generalize s + push = a at *
  have hk0 : 0 ≤ a / rate := Int.ediv_nonneg (by omega) (by omega)
  have hk1 : a / rate ≤ a := Int.ediv_le_self _ (by omega)
  have hdm := Int.emod_add_mul_ediv a rate
  have hm0 := Int.emod_nonneg a (b := rate) (by omega)
  generalize a / rate = k at *
  have p1 := mul_le_mul_abs (A := 6001) (B := 6000) (by omega) (by omega) (by omega : -6001 ≤ k + 1) (by omega) (by omega : -6000 ≤ a) h1
  have p2 := Int.mul_nonneg (by omega : 0 ≤ k + 1) (by omega : 0 ≤ a)
  have p3 := Int.mul_nonneg (by omega : 0 ≤ rate) hk0
  have p4 := mul_le_mul_abs (a := rate * k) (A := 6000) (B := 6001) (by omega) (by omega) (by omega) (by omega) (by omega : -6001 ≤ k + 1) (by omega)
  have p5 := Int.mul_nonneg p3 (by omega : 0 ≤ k + 1)
  omega
theorem pbrake_le {push rate s : Int} (hr : 1 ≤ rate) (hr2 : rate ≤ 4000) (h1 : s + push ≤ 6000) : pbrake push rate s ≤ 36006000 := by
  by_cases h0 : s + push ≤ 0
  · rw [pbrake_zero h0]; omega
  · have := pbrake_parts hr hr2 (by omega : 0 < s + push) h1
    unfold pbrake
    rw [if_neg h0]
    omega

def pguardMay (lo hi noise push most rate : Int) : Int :=
  if ¬(-100000 ≤ lo ∧ lo ≤ 100000 ∧ -100000 ≤ hi ∧ hi ≤ 100000 ∧ 0 ≤ noise ∧ noise ≤ 1000 ∧ 0 ≤ push ∧ push ≤ 2000 ∧ 1 ≤ most ∧ most ≤ 4000 ∧ 1 ≤ rate ∧ rate ≤ most) then 1
  else if most < push ∨ rate < push ∨ hi - lo < 2 * (noise + pbrake push rate most) then 3 else 0
end Go.Proofs.Ytdfpenjhpemokaa
