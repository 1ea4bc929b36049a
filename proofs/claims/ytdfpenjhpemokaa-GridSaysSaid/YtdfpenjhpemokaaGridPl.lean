/-
  The plain law of grids: what may be, and the height over two numbers, as the program and as the reference come to it. No program in sight.
-/
import Derived.Test.YtdfpenjhpemokaaLinePl
import Derived.Test.YtdfpenjhpemokaaSxStd
set_option linter.unusedVariables false
set_option linter.unusedSimpArgs false
namespace Go.Proofs.Ytdfpenjhpemokaa.Sx
open Go.RowKit
def prow (m : Nat) (d : GD) : Int := if d.n ≠ m then 3 else pworth d.f d.n
def prows (m : Nat) (R : Nat → GD) : Nat → Int
  | 0 => 0
  | k + 1 => por (prows m R k) (prow m (R k))
def pgrid (g h : GD) (k : Nat) (R : Nat → GD) : Int := por (prising g.f g.n) (por (prising h.f h.n) (if k ≠ g.n then 3 else prows h.n R k))
theorem por_0 {a b : Int} (h : por a b = 0) : a = 0 ∧ b = 0 := by
  unfold por at h
  split at h
  · exact ⟨by assumption, h⟩
  · exact absurd h (by assumption)
theorem prows_0 {m : Nat} {R : Nat → GD} : ∀ {k : Nat}, prows m R k = 0 → ∀ i, i < k → (R i).n = m ∧ WorthAll (R i).f m
  | 0, _, i, hi => absurd hi (Nat.not_lt_zero _)
  | k + 1, h, i, hi => by
    obtain ⟨h1, h2⟩ := por_0 h
    rcases Nat.lt_or_ge i k with hlt | hge
    · exact prows_0 h1 i hlt
    · obtain rfl : i = k := by omega
      unfold prow at h2
      split at h2
      · exact absurd h2 (by decide)
      · rename_i hn
        have hn : (R i).n = m := by omega
        rw [hn] at h2
        exact ⟨hn, pworth_iff.1 h2⟩
theorem prows_bad {m : Nat} {R : Nat → GD} {e : Int} {i : Nat} (h0 : prows m R i = 0) (he : prow m (R i) = e) (hz : e ≠ 0) : ∀ {k : Nat}, i < k → prows m R k = e
  | 0, hi => absurd hi (Nat.not_lt_zero _)
  | k + 1, hi => by
    rcases Nat.lt_or_ge i k with hlt | hge
    · have := prows_bad h0 he hz hlt
      show por (prows m R k) _ = e
      unfold por
      rw [this, if_neg hz]
    · obtain rfl : i = k := by omega
      show por (prows m R i) _ = e
      unfold por
      rw [h0, if_pos rfl, he]
def pcell (f h : Nat → Int) (z : Nat → Nat → Int) (i j : Nat) (x y : Int) : Int :=
  pup2 ((f (i + 1) - x) * (h (j + 1) - y) * z i j + (x - f i) * (h (j + 1) - y) * z (i + 1) j + (f (i + 1) - x) * (y - h j) * z i (j + 1) + (x - f i) * (y - h j) * z (i + 1) (j + 1)) (((x - f i) + (f (i + 1) - x)) * ((y - h j) + (h (j + 1) - y)))
def rcell (f h : Nat → Int) (z : Nat → Nat → Int) (i j : Nat) (x y : Int) : Int :=
  pup2 ((z i j * (h (j + 1) - y) + z i (j + 1) * (y - h j)) * (f (i + 1) - x) + (z (i + 1) j * (h (j + 1) - y) + z (i + 1) (j + 1) * (y - h j)) * (x - f i)) ((h (j + 1) - h j) * (f (i + 1) - f i))
theorem pcell_eq (f h : Nat → Int) (z : Nat → Nat → Int) (i j : Nat) (x y : Int) : pcell f h z i j x y = rcell f h z i j x y := by
  unfold pcell rcell
  congr 1
  · grind
  · grind
theorem pup2_scale (P Q : Int) {k : Int} (hk : 0 < k) : pup2 (P * k) (Q * k) = pup2 P Q := by
  unfold pup2
  have e1 : 2 * (P * k) + Q * k = (2 * P + Q) * k := by grind
  have e2 : 2 * (Q * k) = (2 * Q) * k := by grind
  rw [e1, e2, Int.mul_ediv_mul_of_pos_left _ _ hk]
theorem rcell_x (f h : Nat → Int) (z : Nat → Nat → Int) (i j : Nat) (y : Int) (h1 : f i < f (i + 1)) (h2 : f (i + 1) < f (i + 2)) :
    rcell f h z i j (f (i + 1)) y = rcell f h z (i + 1) j (f (i + 1)) y := by
  have e1 : rcell f h z i j (f (i + 1)) y = pup2 (z (i + 1) j * (h (j + 1) - y) + z (i + 1) (j + 1) * (y - h j)) (h (j + 1) - h j) := by
    unfold rcell
    rw [show (z i j * (h (j + 1) - y) + z i (j + 1) * (y - h j)) * (f (i + 1) - f (i + 1)) = 0 by rw [Int.sub_self, Int.mul_zero], Int.zero_add]
    exact pup2_scale _ _ (by omega)
  have e2 : rcell f h z (i + 1) j (f (i + 1)) y = pup2 (z (i + 1) j * (h (j + 1) - y) + z (i + 1) (j + 1) * (y - h j)) (h (j + 1) - h j) := by
    unfold rcell
    rw [Int.sub_self, Int.mul_zero, Int.add_zero]
    exact pup2_scale _ _ (by show 0 < f (i + 2) - f (i + 1); omega)
  rw [e1, e2]
theorem rcell_y (f h : Nat → Int) (z : Nat → Nat → Int) (i j : Nat) (x : Int) (h1 : h j < h (j + 1)) (h2 : h (j + 1) < h (j + 2)) :
    rcell f h z i j x (h (j + 1)) = rcell f h z i (j + 1) x (h (j + 1)) := by
  have e1 : rcell f h z i j x (h (j + 1)) = pup2 (z i (j + 1) * (f (i + 1) - x) + z (i + 1) (j + 1) * (x - f i)) (f (i + 1) - f i) := by
    unfold rcell
    rw [show (z i j * (h (j + 1) - h (j + 1)) + z i (j + 1) * (h (j + 1) - h j)) * (f (i + 1) - x) + (z (i + 1) j * (h (j + 1) - h (j + 1)) + z (i + 1) (j + 1) * (h (j + 1) - h j)) * (x - f i) = (z i (j + 1) * (f (i + 1) - x) + z (i + 1) (j + 1) * (x - f i)) * (h (j + 1) - h j) by grind, Int.mul_comm (h (j + 1) - h j)]
    exact pup2_scale _ _ (by omega)
  have e2 : rcell f h z i (j + 1) x (h (j + 1)) = pup2 (z i (j + 1) * (f (i + 1) - x) + z (i + 1) (j + 1) * (x - f i)) (f (i + 1) - f i) := by
    unfold rcell
    rw [show (z i (j + 1) * (h (j + 1 + 1) - h (j + 1)) + z i (j + 1 + 1) * (h (j + 1) - h (j + 1))) * (f (i + 1) - x) + (z (i + 1) (j + 1) * (h (j + 1 + 1) - h (j + 1)) + z (i + 1) (j + 1 + 1) * (h (j + 1) - h (j + 1))) * (x - f i) = (z i (j + 1) * (f (i + 1) - x) + z (i + 1) (j + 1) * (x - f i)) * (h (j + 1 + 1) - h (j + 1)) by grind, Int.mul_comm (h (j + 1 + 1) - h (j + 1))]
    exact pup2_scale _ _ (by show 0 < h (j + 2) - h (j + 1); omega)
  rw [e1, e2]
def IsRPiece (f : Nat → Int) (n : Nat) (x : Int) (i : Nat) : Prop := i + 2 ≤ n ∧ (∀ j, j < i → f (j + 1) < x) ∧ x ≤ f (i + 1)
theorem rpiece_of {f : Nat → Int} {n : Nat} {x : Int} (hr : RiseAll f n) (h0 : f 0 ≤ x) (h1 : x ≤ f (n - 1)) {p r : Nat} (hp : IsPiece f n x p) (h : IsRPiece f n x r) : p = r ∨ (p = r + 1 ∧ x = f (r + 1)) := by
  obtain ⟨p1, p2, p3⟩ := hp
  obtain ⟨r1, r2, r3⟩ := h
  have px : x ≤ f (p + 1) := by
    rcases Nat.lt_or_ge (p + 2) n with hc | hc
    · have := p3 hc; omega
    · have : p + 1 = n - 1 := by omega
      rw [this]; exact h1
  rcases Nat.lt_trichotomy p r with hc | hc | hc
  · have := r2 p hc
    omega
  · exact .inl hc
  · right
    have e1 := p2 r hc
    have hx : x = f (r + 1) := by omega
    refine ⟨?_, hx⟩
    refine Classical.byContradiction fun hne => ?_
    have h2 := p2 (p - 1) (by omega)
    have h3 := rise_lt hr (r + 1) p (by omega) (by omega)
    rw [show p - 1 + 1 = p by omega] at h2
    omega
def pheight (g h : GD) (R : Nat → GD) (x y : Int) : Int :=
  pcell g.f h.f (fun i j => (R i).f j) (ppc g.f (pclip x (g.f 0) (g.f (g.n - 1))) (g.n - 2) 0) (ppc h.f (pclip y (h.f 0) (h.f (h.n - 1))) (h.n - 2) 0) (pclip x (g.f 0) (g.f (g.n - 1))) (pclip y (h.f 0) (h.f (h.n - 1)))
theorem rheight_eq {f h : Nat → Int} {n m : Nat} (z : Nat → Nat → Int) (hn : 2 ≤ n) (hm : 2 ≤ m) (hf : RiseAll f n) (hh : RiseAll h m) {x y : Int} (x0 : f 0 ≤ x) (x1 : x ≤ f (n - 1)) (y0 : h 0 ≤ y) (y1 : y ≤ h (m - 1)) {i j : Nat} (hi : IsRPiece f n x i) (hj : IsRPiece h m y j) :
    rcell f h z i j x y = pcell f h z (ppc f x (n - 2) 0) (ppc h y (m - 2) 0) x y := by
  rw [pcell_eq]
  have a1 := ppc_is f x n (n - 2) 0 (by omega) (fun j hj => absurd hj (Nat.not_lt_zero _))
  have a2 := ppc_is h y m (m - 2) 0 (by omega) (fun j hj => absurd hj (Nat.not_lt_zero _))
  have b1 := rpiece_of hf x0 x1 a1 hi
  have b2 := rpiece_of hh y0 y1 a2 hj
  have ex : ∀ j, rcell f h z i j x y = rcell f h z (ppc f x (n - 2) 0) j x y := fun j => by
    rcases b1 with b | ⟨b, bx⟩
    · rw [b]
    · rw [b, bx]
      exact rcell_x f h z i j y (hf i (by have := a1.1; omega)) (hf (i + 1) (by have := a1.1; omega))
  have ey : ∀ i, rcell f h z i j x y = rcell f h z i (ppc h y (m - 2) 0) x y := fun i => by
    rcases b2 with b | ⟨b, bx⟩
    · rw [b]
    · rw [b, bx]
      exact rcell_y f h z i j x (hh j (by have := a2.1; omega)) (hh (j + 1) (by have := a2.1; omega))
  rw [ex, ey]
end Go.Proofs.Ytdfpenjhpemokaa.Sx
