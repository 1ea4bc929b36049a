/-
  The plain law of a line: its points, and what it is between them. No program in sight.
-/
import Derived.Test.YtdfpenjhpemokaaNum
set_option linter.unusedVariables false
set_option linter.unusedSimpArgs false
namespace Go.Proofs.Ytdfpenjhpemokaa
open Go.RowKit

def WorthAll (f : Nat → Int) (n : Nat) : Prop := ∀ k, k < n → -1000000 ≤ f k ∧ f k ≤ 1000000
def pworth (f : Nat → Int) : Nat → Int
  | 0 => 0
  | n + 1 => por (pworth f n) (if -1000000 ≤ f n ∧ f n ≤ 1000000 then 0 else 1)
theorem pworth_ok {f : Nat → Int} {n : Nat} (h : WorthAll f n) : pworth f n = 0 := by
  induction n with
  | zero => rfl
  | succ n ih =>
    show por _ _ = 0
    rw [ih fun k hk => h k (by omega), por_0, if_pos (h n (by omega))]
theorem pworth_bad {f : Nat → Int} {n k : Nat} (hk : k < n) (h : ¬(-1000000 ≤ f k ∧ f k ≤ 1000000)) : pworth f n = 1 := by
  induction n with
  | zero => omega
  | succ n ih =>
    show por _ _ = 1
    by_cases e : k < n
    · rw [ih e]; rfl
    · have : k = n := by omega
      subst this
      rw [if_neg h]
      have key : ∀ m, pworth f m = 0 ∨ pworth f m = 1 := by
        intro m
        induction m with
        | zero => exact .inl rfl
        | succ m ih =>
          show por _ _ = 0 ∨ por _ _ = 1
          rcases ih with ih | ih <;> rw [ih]
          · rw [por_0]; split <;> omega
          · exact .inr rfl
      rcases key k with h0 | h0 <;> rw [h0] <;> rfl
theorem pworth_iff {f : Nat → Int} {n : Nat} : pworth f n = 0 ↔ WorthAll f n := by
  refine ⟨fun h k hk => ?_, pworth_ok⟩
  by_cases hc : -1000000 ≤ f k ∧ f k ≤ 1000000
  · exact hc
  · rw [pworth_bad hk hc] at h; omega
def RiseAll (f : Nat → Int) (n : Nat) : Prop := ∀ k, k + 1 < n → f k < f (k + 1)
def prise (f : Nat → Int) : Nat → Int
  | 0 => 0
  | 1 => 0
  | n + 2 => por (prise f (n + 1)) (if f n < f (n + 1) then 0 else 3)
theorem prise_ok {f : Nat → Int} {n : Nat} (h : RiseAll f n) : prise f n = 0 := by
  match n, h with
  | 0, _ => rfl
  | 1, _ => rfl
  | n + 2, h =>
    show por _ _ = 0
    rw [prise_ok fun k hk => h k (by omega), por_0, if_pos (h n (by omega))]
theorem prise_two (f : Nat → Int) (n : Nat) : prise f n = 0 ∨ prise f n = 3 := by
  match n with
  | 0 => exact .inl rfl
  | 1 => exact .inl rfl
  | n + 2 =>
    show por _ _ = 0 ∨ por _ _ = 3
    rcases prise_two f (n + 1) with ih | ih <;> rw [ih]
    · rw [por_0]; split <;> omega
    · exact .inr rfl
theorem prise_bad {f : Nat → Int} {n k : Nat} (hk : k + 1 < n) (h : ¬ f k < f (k + 1)) : prise f n = 3 := by
  match n, hk with
  | n + 2, hk =>
    show por _ _ = 3
    by_cases e : k + 1 < n + 1
    · rw [prise_bad e h]; rfl
    · have : k = n := by omega
      subst this
      rw [if_neg h]
      rcases prise_two f (k + 1) with h0 | h0 <;> rw [h0] <;> rfl
theorem prise_iff {f : Nat → Int} {n : Nat} : prise f n = 0 ↔ RiseAll f n := by
  refine ⟨fun h k hk => ?_, prise_ok⟩
  by_cases hc : f k < f (k + 1)
  · exact hc
  · rw [prise_bad hk hc] at h; omega
def prising (f : Nat → Int) (n : Nat) : Int := if n < 2 then 3 else if 8 < n then 2 else por (pworth f n) (prise f n)
def pline (f : Nat → Int) (n : Nat) (g : Nat → Int) (m : Nat) : Int := if n ≠ m then 3 else por (prising f n) (pworth g m)
theorem prising_parts {f : Nat → Int} {n : Nat} (h : prising f n = 0) : 2 ≤ n ∧ n ≤ 8 ∧ WorthAll f n ∧ RiseAll f n := by
  unfold prising at h
  split at h
  · omega
  · split at h
    · omega
    · obtain ⟨h1, h2⟩ : pworth f n = 0 ∧ prise f n = 0 := by
        by_cases ha : pworth f n = 0
        · rw [ha, por_0] at h; exact ⟨ha, h⟩
        · rw [por_ne ha] at h; exact absurd h ha
      exact ⟨by omega, by omega, pworth_iff.1 h1, prise_iff.1 h2⟩
theorem rise_le {f : Nat → Int} {n : Nat} (h : RiseAll f n) : ∀ i j, i ≤ j → j < n → f i ≤ f j := by
  intro i j hij
  induction j with
  | zero => intro _; have : i = 0 := by omega
            subst this; exact Int.le_refl _
  | succ j ih =>
    intro hj
    by_cases e : i = j + 1
    · subst e; exact Int.le_refl _
    · have h1 := ih (by omega) (by omega)
      have h2 := h j (by omega)
      omega
theorem rise_lt {f : Nat → Int} {n : Nat} (h : RiseAll f n) (i j : Nat) (hij : i < j) (hj : j < n) : f i < f j := by
  have h1 := rise_le h (i + 1) j (by omega) hj
  have h2 := h i (by omega)
  omega
def IsPiece (f : Nat → Int) (n : Nat) (x : Int) (i : Nat) : Prop := i + 2 ≤ n ∧ (∀ j, j < i → f (j + 1) ≤ x) ∧ (i + 2 < n → x < f (i + 1))
def pval (f g : Nat → Int) (i : Nat) (x : Int) : Int := g i + pup2 ((x - f i) * (g (i + 1) - g i)) (f (i + 1) - f i)
def ppc (f : Nat → Int) (x : Int) : Nat → Nat → Nat
  | 0, i => i
  | d + 1, i => if f (i + 1) ≤ x then ppc f x d (i + 1) else i
theorem ppc_is (f : Nat → Int) (x : Int) (n : Nat) : ∀ d i, i + 2 + d = n → (∀ j, j < i → f (j + 1) ≤ x) → IsPiece f n x (ppc f x d i) := by
  intro d
  induction d with
  | zero => intro i h1 h2; exact ⟨by show i + 2 ≤ n; omega, h2, fun h => (by have h3 : i + 2 < n := h; omega)⟩
  | succ d ih =>
    intro i h1 h2
    unfold ppc
    split
    · rename_i hx
      refine ih (i + 1) (by omega) fun j hj => ?_
      rcases Nat.lt_succ_iff_lt_or_eq.1 hj with hj | rfl
      · exact h2 j hj
      · exact hx
    · exact ⟨by omega, h2, fun _ => by omega⟩
def plook (f g : Nat → Int) (n : Nat) (x : Int) : Int := pval f g (ppc f (pclip x (f 0) (f (n - 1))) (n - 2) 0) (pclip x (f 0) (f (n - 1)))
end Go.Proofs.Ytdfpenjhpemokaa
