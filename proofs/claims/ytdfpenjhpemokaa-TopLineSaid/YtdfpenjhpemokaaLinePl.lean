/-
  The plain law of a line: its points, and what it is between them. No program in sight.
-/
import Derived.Test.YtdfpenjhpemokaaNum
set_option linter.unusedVariables false
set_option linter.unusedSimpArgs false
namespace Go.Proofs.Ytdfpenjhpemokaa
open Go.RowKit

/-- Are the first n numbers within their bounds. -/
def WorthAll (f : Nat → Int) (n : Nat) : Prop := ∀ k, k < n → -1000000 ≤ f k ∧ f k ≤ 1000000
def pworth (f : Nat → Int) : Nat → Int
  | 0 => 0
  | n + 1 => por (pworth f n) (if -1000000 ≤ f n ∧ f n ≤ 1000000 then 0 else 1)
theorem pworth_ok {f : Nat → Int} {n : Nat} (h : WorthAll f n) : pworth f n = 0 := by
  induction n with
  | zero => rfl
  | succ n ih =>
    show por _ _ = 0
    rw [ih fun k hk => h k (by omega), por_0, if_pos (h n (by omega))]
theorem pworth_bad {f : Nat → Int} {n k : Nat} (hk : k < n) (h : ¬(-1000000 ≤ f k ∧ f k ≤ 1000000)) : pworth f n = 1 := by
  induction n with
  | zero => omega
  | succ n ih =>
    show por _ _ = 1
    by_cases e : k < n
    · rw [ih e]; rfl
    · have : k = n := by omega
      subst this
      rw [if_neg h]
      have key : ∀ m, pworth f m = 0 ∨ pworth f m = 1 := by
        intro m
        induction m with
        | zero => exact .inl rfl
        | succ m ih =>
          show por _ _ = 0 ∨ por _ _ = 1
          rcases ih with ih | ih <;> rw [ih]
          · rw [por_0]; split <;> omega
          · exact .inr rfl
      rcases key k with h0 | h0 <;> rw [h0] <;> rfl
theorem pworth_iff {f : Nat → Int} {n : Nat} : pworth f n = 0 ↔ WorthAll f n := by
  refine ⟨fun h k hk => ?_, pworth_ok⟩
  by_cases hc : -1000000 ≤ f k ∧ f k ≤ 1000000
  · exact hc
  · rw [pworth_bad hk hc] at h; omega
/-- Do the first n rise, each above the one before. -/
def RiseAll (f : Nat → Int) (n : Nat) : Prop := ∀ k, k + 1 < n → f k < f (k + 1)
def prise (f : Nat → Int) : Nat → Int
  | 0 => 0
  | 1 => 0
  | n + 2 => por (prise f (n + 1)) (if f n < f (n + 1) then 0 else 3)
theorem prise_ok {f : Nat → Int} {n : Nat} (h : RiseAll f n) : prise f n = 0 := by
  match n, h with
  | 0, _ => rfl
  | 1, _ => rfl
  | n + 2, h =>
    show por _ _ = 0
    rw [prise_ok fun k hk => h k (by omega), por_0, if_pos (h n (by omega))]
theorem prise_two (f : Nat → Int) (n : Nat) : prise f n = 0 ∨ prise f n = 3 := by
  match n with
  | 0 => exact .inl rfl
  | 1 => exact .inl rfl
  | n + 2 =>
    show por _ _ = 0 ∨ por _ _ = 3
    rcases prise_two f (n + 1) with ih | ih <;> rw [ih]
    · rw [por_0]; split <;> omega
    · exact .inr rfl
theorem prise_bad {f : Nat → Int} {n k : Nat} (hk : k + 1 < n) (h : ¬ f k < f (k + 1)) : prise f n = 3 := by
  match n, hk with
  | n + 2, hk =>
    show por _ _ = 3
    by_cases e : k + 1 < n + 1
    · rw [prise_bad e h]; rfl
    · have : k = n := by omega
      subst this
      rw [if_neg h]
      rcases prise_two f (k + 1) with h0 | h0 <;> rw [h0] <;> rfl
theorem prise_iff {f : Nat → Int} {n : Nat} : prise f n = 0 ↔ RiseAll f n := by
  refine ⟨fun h k hk => ?_, prise_ok⟩
  by_cases hc : f k < f (k + 1)
  · exact hc
  · rw [prise_bad hk hc] at h; omega
/-- What the places of points may be. -/
def prising (f : Nat → Int) (n : Nat) : Int := if n < 2 then 3 else if 8 < n then 2 else por (pworth f n) (prise f n)
/-- A line. -/
def pline (f : Nat → Int) (n : Nat) (g : Nat → Int) (m : Nat) : Int := if n ≠ m then 3 else por (prising f n) (pworth g m)
theorem prising_parts {f : Nat → Int} {n : Nat} (h : prising f n = 0) : 2 ≤ n ∧ n ≤ 8 ∧ WorthAll f n ∧ RiseAll f n := by
  unfold prising at h
  split at h
  · omega
  · split at h
    · omega
    · obtain ⟨h1, h2⟩ : pworth f n = 0 ∧ prise f n = 0 := by
        by_cases ha : pworth f n = 0
        · rw [ha, por_0] at h; exact ⟨ha, h⟩
        · rw [por_ne ha] at h; exact absurd h ha
      exact ⟨by omega, by omega, pworth_iff.1 h1, prise_iff.1 h2⟩
theorem pline_parts {f : Nat → Int} {n : Nat} {g : Nat → Int} {m : Nat} (h : pline f n g m = 0) : m = n ∧ 2 ≤ n ∧ n ≤ 8 ∧ WorthAll f n ∧ RiseAll f n ∧ WorthAll g n := by
  unfold pline at h
  split at h
  · omega
  · rename_i hc
    have hc : n = m := by omega
    subst hc
    obtain ⟨h1, h2⟩ : prising f n = 0 ∧ pworth g n = 0 := by
      by_cases ha : prising f n = 0
      · rw [ha, por_0] at h; exact ⟨ha, h⟩
      · rw [por_ne ha] at h; exact absurd h ha
    obtain ⟨a, b, c, d⟩ := prising_parts h1
    exact ⟨rfl, a, b, c, d, pworth_iff.1 h2⟩
theorem rise_le {f : Nat → Int} {n : Nat} (h : RiseAll f n) : ∀ i j, i ≤ j → j < n → f i ≤ f j := by
  intro i j hij
  induction j with
  | zero => intro _; have : i = 0 := by omega
            subst this; exact Int.le_refl _
  | succ j ih =>
    intro hj
    by_cases e : i = j + 1
    · subst e; exact Int.le_refl _
    · have h1 := ih (by omega) (by omega)
      have h2 := h j (by omega)
      omega
theorem rise_lt {f : Nat → Int} {n : Nat} (h : RiseAll f n) (i j : Nat) (hij : i < j) (hj : j < n) : f i < f j := by
  have h1 := rise_le h (i + 1) j (by omega) hj
  have h2 := h i (by omega)
  omega
/-- The piece of x: where a search from below stops. -/
def IsPiece (f : Nat → Int) (n : Nat) (x : Int) (i : Nat) : Prop := i + 2 ≤ n ∧ (∀ j, j < i → f (j + 1) ≤ x) ∧ (i + 2 < n → x < f (i + 1))
theorem piece_is (f : Nat → Int) (n : Nat) (x : Int) (hn : 2 ≤ n) : ∃ i, IsPiece f n x i := by
  have key : ∀ d i, i + 2 + d = n → (∀ j, j < i → f (j + 1) ≤ x) → ∃ i, IsPiece f n x i := by
    intro d
    induction d with
    | zero => intro i h1 h2; exact ⟨i, by omega, h2, fun h => absurd h (by omega)⟩
    | succ d ih =>
      intro i h1 h2
      by_cases hx : f (i + 1) ≤ x
      · refine ih (i + 1) (by omega) fun j hj => ?_
        rcases Nat.lt_succ_iff_lt_or_eq.1 hj with hj | rfl
        · exact h2 j hj
        · exact hx
      · exact ⟨i, by omega, h2, fun _ => by omega⟩
  exact key (n - 2) 0 (by omega) fun j hj => absurd hj (Nat.not_lt_zero j)
/-- Rounding: a whole number more. -/
theorem pup2_add (a m d : Int) (hd : 0 < d) : pup2 (a * d + m) d = a + pup2 m d := by
  unfold pup2
  have e : 2 * (a * d + m) + d = (2 * m + d) + a * (2 * d) := by
    rw [Int.mul_add, ← Int.mul_assoc 2 a d, Int.mul_comm 2 a, Int.mul_assoc a 2 d]; omega
  rw [e, Int.add_mul_ediv_right _ _ (by omega)]; omega
theorem pup2_whole (a d : Int) (hd : 0 < d) : pup2 (a * d) d = a := by
  have := pup2_add a 0 d hd
  rw [Int.add_zero] at this
  rw [this]
  unfold pup2
  have : (2 * 0 + d) / (2 * d) = 0 := Int.ediv_eq_zero_of_lt (by omega) (by omega)
  omega
/-- The program's value in piece i: x lies within the ends. -/
def pval (f g : Nat → Int) (i : Nat) (x : Int) : Int := g i + pup2 ((x - f i) * (g (i + 1) - g i)) (f (i + 1) - f i)
/-- The reference's value in piece i. -/
def prval (f g : Nat → Int) (i : Nat) (x : Int) : Int := pup2 (g i * (f (i + 1) - x) + g (i + 1) * (x - f i)) (f (i + 1) - f i)
theorem pval_eq (f g : Nat → Int) (i : Nat) (x : Int) (h : f i < f (i + 1)) : pval f g i x = prval f g i x := by
  unfold pval prval
  rw [← pup2_add _ _ _ (by omega)]
  congr 1
  have e1 : g i * (f (i + 1) - f i) = g i * f (i + 1) - g i * f i := Int.mul_sub _ _ _
  have e2 : (x - f i) * (g (i + 1) - g i) = x * g (i + 1) - x * g i - (f i * g (i + 1) - f i * g i) := by rw [Int.sub_mul, Int.mul_sub, Int.mul_sub]
  have e3 : g i * (f (i + 1) - x) = g i * f (i + 1) - g i * x := Int.mul_sub _ _ _
  have e4 : g (i + 1) * (x - f i) = g (i + 1) * x - g (i + 1) * f i := Int.mul_sub _ _ _
  rw [e1, e2, e3, e4, Int.mul_comm x (g (i + 1)), Int.mul_comm x (g i), Int.mul_comm (f i) (g (i + 1)), Int.mul_comm (f i) (g i)]
  omega
theorem pval_hi (f g : Nat → Int) (i : Nat) (h : f i < f (i + 1)) : pval f g i (f (i + 1)) = g (i + 1) := by
  unfold pval
  rw [Int.mul_comm, pup2_whole _ _ (by omega)]; omega
theorem pval_lo (f g : Nat → Int) (i : Nat) (h : f i < f (i + 1)) : pval f g i (f i) = g i := by
  unfold pval
  rw [Int.sub_self, Int.zero_mul]
  have := pup2_whole 0 (f (i + 1) - f i) (by omega)
  rw [Int.zero_mul] at this
  omega
theorem piece_one {f : Nat → Int} {n : Nat} {x : Int} {i j : Nat} (hi : IsPiece f n x i) (hj : IsPiece f n x j) : i = j := by
  obtain ⟨a1, a2, a3⟩ := hi
  obtain ⟨b1, b2, b3⟩ := hj
  rcases Nat.lt_trichotomy i j with h | h | h
  · have := b2 i h; have := a3 (by omega); omega
  · exact h
  · have := a2 j h; have := b3 (by omega); omega
/-- A search from below. -/
def ppc (f : Nat → Int) (x : Int) : Nat → Nat → Nat
  | 0, i => i
  | d + 1, i => if f (i + 1) ≤ x then ppc f x d (i + 1) else i
theorem ppc_is (f : Nat → Int) (x : Int) (n : Nat) : ∀ d i, i + 2 + d = n → (∀ j, j < i → f (j + 1) ≤ x) → IsPiece f n x (ppc f x d i) := by
  intro d
  induction d with
  | zero => intro i h1 h2; exact ⟨by show i + 2 ≤ n; omega, h2, fun h => (by have h3 : i + 2 < n := h; omega)⟩
  | succ d ih =>
    intro i h1 h2
    unfold ppc
    split
    · rename_i hx
      refine ih (i + 1) (by omega) fun j hj => ?_
      rcases Nat.lt_succ_iff_lt_or_eq.1 hj with hj | rfl
      · exact h2 j hj
      · exact hx
    · exact ⟨by omega, h2, fun _ => by omega⟩
/-- What a line is at x. -/
def plook (f g : Nat → Int) (n : Nat) (x : Int) : Int := pval f g (ppc f (pclip x (f 0) (f (n - 1))) (n - 2) 0) (pclip x (f 0) (f (n - 1)))
theorem plook_at {f g : Nat → Int} {n : Nat} {x : Int} {i : Nat} (h : IsPiece f n (pclip x (f 0) (f (n - 1))) i) : plook f g n x = pval f g i (pclip x (f 0) (f (n - 1))) := by
  unfold plook
  rw [piece_one (ppc_is f (pclip x (f 0) (f (n - 1))) n (n - 2) 0 (by have := h.1; omega) (fun j hj => absurd hj (Nat.not_lt_zero j))) h]
/-- Beyond the last, and before the first. -/
theorem plook_last {f g : Nat → Int} {n : Nat} {x : Int} (hn : 2 ≤ n) (hr : RiseAll f n) (h : f (n - 1) ≤ x) : plook f g n x = g (n - 1) := by
  have h0 := rise_le hr 0 (n - 1) (by omega) (by omega)
  have e : pclip x (f 0) (f (n - 1)) = f (n - 1) := by unfold pclip; omega
  obtain ⟨m, rfl⟩ : ∃ m, n = m + 2 := ⟨n - 2, by omega⟩
  have hp : IsPiece f (m + 2) (pclip x (f 0) (f (m + 2 - 1))) m := ⟨by omega, fun j hj => by rw [e]; exact rise_le hr _ _ (by omega) (by omega), fun h => absurd h (by omega)⟩
  rw [plook_at hp, e]
  exact pval_hi f g m (hr m (by omega))
theorem plook_first {f g : Nat → Int} {n : Nat} {x : Int} (hn : 2 ≤ n) (hr : RiseAll f n) (h : x ≤ f 0) : plook f g n x = g 0 := by
  have h0 := rise_le hr 0 (n - 1) (by omega) (by omega)
  have e : pclip x (f 0) (f (n - 1)) = f 0 := by unfold pclip; omega
  have hp : IsPiece f n (pclip x (f 0) (f (n - 1))) 0 := ⟨by omega, fun j hj => absurd hj (Nat.not_lt_zero j), fun _ => by rw [e]; exact hr 0 (by omega)⟩
  rw [plook_at hp, e]
  exact pval_lo f g 0 (hr 0 (by omega))
/-- The reference's piece: from above. -/
theorem plook_mid {f g : Nat → Int} {n : Nat} {x : Int} {i : Nat} (hr : RiseAll f n) (h1 : f 0 < x) (h2 : x < f (n - 1)) (hi : i + 2 ≤ n) (h3 : f i ≤ x) (h4 : x < f (i + 1)) : plook f g n x = prval f g i x := by
  have e : pclip x (f 0) (f (n - 1)) = x := by unfold pclip; omega
  have hp : IsPiece f n (pclip x (f 0) (f (n - 1))) i := ⟨hi, fun j hj => by rw [e]; exact Int.le_trans (rise_le hr (j + 1) i (by omega) (by omega)) h3, fun _ => by rw [e]; exact h4⟩
  rw [plook_at hp, e]
  exact pval_eq f g i x (hr i (by omega))
end Go.Proofs.Ytdfpenjhpemokaa
