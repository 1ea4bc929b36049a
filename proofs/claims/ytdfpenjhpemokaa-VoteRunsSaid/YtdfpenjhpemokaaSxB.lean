/-
  A verified symbolic executor, part 2: numbers with bounds; symbolic values, their readings. No program in sight.
-/
import Derived.Test.YtdfpenjhpemokaaSxA
import Derived.Below
set_option linter.unusedVariables false
set_option linter.unusedSimpArgs false
namespace Go.Proofs.Ytdfpenjhpemokaa.Sx

theorem wrap_bd (k : IntKind) (n : Int) : kmin k ≤ k.wrap n ∧ k.wrap n ≤ kmax k := by
  cases k <;> simp only [kmin, kmax, IntKind.wrap, IntKind.signed, IntKind.bits] <;> (constructor <;> (simp; try split) <;> omega)

/-- A number of kind k with these bounds, wrapped where it may not fit. -/
def fit (k : IntKind) (e : E) (lo hi : Int) : R :=
  if kmin k ≤ lo ∧ hi ≤ kmax k then (if lo = hi then ⟨.c lo, lo, hi⟩ else ⟨e, lo, hi⟩) else ⟨.un (.wrap k) e, kmin k, kmax k⟩
theorem fit_ok (ρ : Env) (k : IntKind) (e : E) (lo hi : Int) (h1 : lo ≤ e.i ρ) (h2 : e.i ρ ≤ hi) : (fit k e lo hi).ok ρ ∧ (fit k e lo hi).e.i ρ = k.wrap (e.i ρ) := by
  unfold fit
  split
  · rename_i h
    rw [wrap_in k _ (by omega) (by omega)]
    split
    · rename_i hl; subst hl
      exact ⟨⟨Int.le_refl _, Int.le_refl _⟩, by show lo = _; omega⟩
    · exact ⟨⟨h1, h2⟩, rfl⟩
  · exact ⟨wrap_bd k _, rfl⟩

def imin (a b : Int) : Int := if a ≤ b then a else b
def imax (a b : Int) : Int := if a ≤ b then b else a
theorem imin_l (a b : Int) : imin a b ≤ a := by unfold imin; split <;> omega
theorem imin_r (a b : Int) : imin a b ≤ b := by unfold imin; split <;> omega
theorem imax_l (a b : Int) : a ≤ imax a b := by unfold imax; split <;> omega
theorem imax_r (a b : Int) : b ≤ imax a b := by unfold imax; split <;> omega

theorem mul_bd {a b al ah bl bh : Int} (h1 : al ≤ a) (h2 : a ≤ ah) (h3 : bl ≤ b) (h4 : b ≤ bh) :
    imin (imin (al * bl) (al * bh)) (imin (ah * bl) (ah * bh)) ≤ a * b ∧ a * b ≤ imax (imax (al * bl) (al * bh)) (imax (ah * bl) (ah * bh)) := by
  have key : ∀ x : Int, imin (x * bl) (x * bh) ≤ x * b ∧ x * b ≤ imax (x * bl) (x * bh) := by
    intro x
    rcases Int.le_total 0 x with hx | hx
    · have e1 := Int.mul_le_mul_of_nonneg_left h3 hx
      have e2 := Int.mul_le_mul_of_nonneg_left h4 hx
      exact ⟨Int.le_trans (imin_l _ _) e1, Int.le_trans e2 (imax_r _ _)⟩
    · have e1 := Int.mul_le_mul_of_nonpos_left hx h3
      have e2 := Int.mul_le_mul_of_nonpos_left hx h4
      exact ⟨Int.le_trans (imin_r _ _) e2, Int.le_trans e1 (imax_l _ _)⟩
  have k1 := key al
  have k2 := key ah
  rcases Int.le_total 0 b with hb | hb
  · have e1 := Int.mul_le_mul_of_nonneg_right h1 hb
    have e2 := Int.mul_le_mul_of_nonneg_right h2 hb
    exact ⟨Int.le_trans (imin_l _ _) (Int.le_trans k1.1 e1), Int.le_trans e2 (Int.le_trans k2.2 (imax_r _ _))⟩
  · have e1 := Int.mul_le_mul_of_nonpos_right h1 hb
    have e2 := Int.mul_le_mul_of_nonpos_right h2 hb
    exact ⟨Int.le_trans (imin_r _ _) (Int.le_trans k2.1 e2), Int.le_trans e1 (Int.le_trans k1.2 (imax_l _ _))⟩

def radd (k : IntKind) (a b : R) : R := fit k (mkAdd a.e b.e) (a.lo + b.lo) (a.hi + b.hi)
theorem radd_ok {ρ : Env} (k : IntKind) {a b : R} (ha : a.ok ρ) (hb : b.ok ρ) : (radd k a b).ok ρ ∧ (radd k a b).e.i ρ = k.wrap (a.e.i ρ + b.e.i ρ) := by
  obtain ⟨h1, h2⟩ := ha; obtain ⟨h3, h4⟩ := hb
  have := fit_ok ρ k (mkAdd a.e b.e) (a.lo + b.lo) (a.hi + b.hi) (by rw [mkAdd_i]; omega) (by rw [mkAdd_i]; omega)
  rwa [mkAdd_i] at this
def rsub (k : IntKind) (a b : R) : R := fit k (mkSub a.e b.e) (a.lo - b.hi) (a.hi - b.lo)
theorem rsub_ok {ρ : Env} (k : IntKind) {a b : R} (ha : a.ok ρ) (hb : b.ok ρ) : (rsub k a b).ok ρ ∧ (rsub k a b).e.i ρ = k.wrap (a.e.i ρ - b.e.i ρ) := by
  obtain ⟨h1, h2⟩ := ha; obtain ⟨h3, h4⟩ := hb
  have := fit_ok ρ k (mkSub a.e b.e) (a.lo - b.hi) (a.hi - b.lo) (by rw [mkSub_i]; omega) (by rw [mkSub_i]; omega)
  rwa [mkSub_i] at this
def rmul (k : IntKind) (a b : R) : R :=
  fit k (mkMul a.e b.e) (imin (imin (a.lo * b.lo) (a.lo * b.hi)) (imin (a.hi * b.lo) (a.hi * b.hi))) (imax (imax (a.lo * b.lo) (a.lo * b.hi)) (imax (a.hi * b.lo) (a.hi * b.hi)))
theorem rmul_ok {ρ : Env} (k : IntKind) {a b : R} (ha : a.ok ρ) (hb : b.ok ρ) : (rmul k a b).ok ρ ∧ (rmul k a b).e.i ρ = k.wrap (a.e.i ρ * b.e.i ρ) := by
  have hm := mul_bd ha.1 ha.2 hb.1 hb.2
  have := fit_ok ρ k (mkMul a.e b.e) _ _ (by rw [mkMul_i]; exact hm.1) (by rw [mkMul_i]; exact hm.2)
  rwa [mkMul_i] at this

theorem tdiv_bd (x y : Int) (hy : 1 ≤ y) : (0 ≤ x → 0 ≤ x.tdiv y ∧ x.tdiv y ≤ x) ∧ (x ≤ 0 → x ≤ x.tdiv y ∧ x.tdiv y ≤ 0) := by
  have key : ∀ z : Int, 0 ≤ z → 0 ≤ z.tdiv y ∧ z.tdiv y ≤ z := by
    intro z hz
    rw [Int.tdiv_eq_ediv_of_nonneg hz]
    exact IntWalk.tdiv_le z y hz hy
  refine ⟨key x, fun h => ?_⟩
  have := key (-x) (by omega)
  rw [Int.neg_tdiv] at this
  omega
/-- Division by a number from 1 on. -/
def rquo (k : IntKind) (a b : R) : R :=
  if 0 ≤ a.lo then
    (if b.lo = b.hi then fit k (.bin .div a.e b.e) (a.lo / b.lo) (a.hi / b.lo) else fit k (.bin .div a.e b.e) 0 a.hi)
  else fit k (.bin .quo a.e b.e) (imin a.lo 0) (imax a.hi 0)
theorem rquo_ok {ρ : Env} (k : IntKind) {a b : R} (ha : a.ok ρ) (hb : b.ok ρ) (h1 : 1 ≤ b.lo) : (rquo k a b).ok ρ ∧ (rquo k a b).e.i ρ = k.wrap ((a.e.i ρ).tdiv (b.e.i ρ)) := by
  obtain ⟨h2, h3⟩ := ha; obtain ⟨h4, h5⟩ := hb
  have hy : 1 ≤ b.e.i ρ := by omega
  unfold rquo
  split
  · rename_i h0
    rw [Int.tdiv_eq_ediv_of_nonneg (by omega : 0 ≤ a.e.i ρ)]
    split
    · rename_i hl
      have hb' : b.e.i ρ = b.lo := by omega
      refine fit_ok ρ k _ _ _ ?_ ?_
      · show _ ≤ a.e.i ρ / b.e.i ρ; rw [hb']; exact Int.ediv_le_ediv (by omega) h2
      · show a.e.i ρ / b.e.i ρ ≤ _; rw [hb']; exact Int.ediv_le_ediv (by omega) h3
    · have := (tdiv_bd (a.e.i ρ) (b.e.i ρ) hy).1 (by omega)
      rw [Int.tdiv_eq_ediv_of_nonneg (by omega : 0 ≤ a.e.i ρ)] at this
      exact fit_ok ρ k _ _ _ this.1 (Int.le_trans this.2 h3)
  · have t := tdiv_bd (a.e.i ρ) (b.e.i ρ) hy
    refine fit_ok ρ k _ _ _ ?_ ?_
    · show _ ≤ (a.e.i ρ).tdiv (b.e.i ρ)
      rcases Int.le_total 0 (a.e.i ρ) with h | h
      · exact Int.le_trans (imin_r _ _) (t.1 h).1
      · exact Int.le_trans (Int.le_trans (imin_l _ _) h2) (t.2 h).1
    · show (a.e.i ρ).tdiv (b.e.i ρ) ≤ _
      rcases Int.le_total 0 (a.e.i ρ) with h | h
      · exact Int.le_trans (Int.le_trans (t.1 h).2 h3) (imax_l _ _)
      · exact Int.le_trans (t.2 h).2 (imax_r _ _)
theorem emod_le (x y : Int) (h : 0 ≤ x) (hy : 0 < y) : x % y ≤ x := by
  have := Int.emod_add_mul_ediv x y
  have h2 := Int.mul_nonneg (Int.le_of_lt hy) (Int.ediv_nonneg h (Int.le_of_lt hy))
  omega
/-- The remainder by a number from 1 on. -/
def rrem (a b : R) : R :=
  if 0 ≤ a.lo then (if a.hi < b.lo then a else ⟨.bin .mod a.e b.e, 0, imin a.hi (b.hi - 1)⟩) else ⟨.bin .rem a.e b.e, 1 - b.hi, b.hi - 1⟩
theorem rrem_ok {ρ : Env} {a b : R} (ha : a.ok ρ) (hb : b.ok ρ) (h1 : 1 ≤ b.lo) : (rrem a b).ok ρ ∧ (rrem a b).e.i ρ = (a.e.i ρ).tmod (b.e.i ρ) := by
  obtain ⟨h2, h3⟩ := ha; obtain ⟨h4, h5⟩ := hb
  unfold rrem
  split
  · rename_i h0
    have he : (a.e.i ρ).tmod (b.e.i ρ) = a.e.i ρ % b.e.i ρ := Int.tmod_eq_emod_of_nonneg (by omega)
    split
    · exact ⟨⟨h2, h3⟩, by rw [he]; exact (Int.emod_eq_of_lt (by omega) (by omega)).symm⟩
    · refine ⟨⟨Int.emod_nonneg _ (by omega), ?_⟩, he.symm⟩
      show a.e.i ρ % b.e.i ρ ≤ _
      have e1 := Int.emod_lt_of_pos (a.e.i ρ) (by omega : 0 < b.e.i ρ)
      have e2 := emod_le (a.e.i ρ) (b.e.i ρ) (by omega) (by omega)
      show _ ≤ imin _ _
      unfold imin; split <;> omega
  · refine ⟨?_, rfl⟩
    show _ ≤ (a.e.i ρ).tmod (b.e.i ρ) ∧ (a.e.i ρ).tmod (b.e.i ρ) ≤ _
    have e1 := Int.tmod_lt_of_pos (a.e.i ρ) (by omega : 0 < b.e.i ρ)
    have e2 := Int.tmod_lt_of_pos (-(a.e.i ρ)) (by omega : 0 < b.e.i ρ)
    rw [Int.neg_tmod] at e2
    show 1 - b.hi ≤ _ ∧ _ ≤ b.hi - 1
    omega
def rmin (a b : R) : R := if a.hi ≤ b.lo then a else if b.hi ≤ a.lo then b else ⟨.bin .min a.e b.e, imin a.lo b.lo, imin a.hi b.hi⟩
theorem rmin_ok {ρ : Env} {a b : R} (ha : a.ok ρ) (hb : b.ok ρ) : (rmin a b).ok ρ ∧ (rmin a b).e.i ρ = min (a.e.i ρ) (b.e.i ρ) := by
  obtain ⟨h2, h3⟩ := ha; obtain ⟨h4, h5⟩ := hb
  unfold rmin
  split
  · exact ⟨⟨h2, h3⟩, by omega⟩
  · split
    · exact ⟨⟨h4, h5⟩, by omega⟩
    · refine ⟨?_, rfl⟩
      show imin _ _ ≤ min _ _ ∧ min _ _ ≤ imin _ _
      unfold imin; (repeat' split) <;> omega
def rmax (a b : R) : R := if b.hi ≤ a.lo then a else if a.hi ≤ b.lo then b else ⟨.bin .max a.e b.e, imax a.lo b.lo, imax a.hi b.hi⟩
theorem rmax_ok {ρ : Env} {a b : R} (ha : a.ok ρ) (hb : b.ok ρ) : (rmax a b).ok ρ ∧ (rmax a b).e.i ρ = max (a.e.i ρ) (b.e.i ρ) := by
  obtain ⟨h2, h3⟩ := ha; obtain ⟨h4, h5⟩ := hb
  unfold rmax
  split
  · exact ⟨⟨h2, h3⟩, by omega⟩
  · split
    · exact ⟨⟨h4, h5⟩, by omega⟩
    · refine ⟨?_, rfl⟩
      show imax _ _ ≤ max _ _ ∧ max _ _ ≤ imax _ _
      unfold imax; (repeat' split) <;> omega
def rlt (a b : R) : E := if a.hi < b.lo then .bc true else if b.hi ≤ a.lo then .bc false else mkLt a.e b.e
theorem rlt_b {ρ : Env} {a b : R} (ha : a.ok ρ) (hb : b.ok ρ) : (rlt a b).b ρ = decide (a.e.i ρ < b.e.i ρ) := by
  obtain ⟨h2, h3⟩ := ha; obtain ⟨h4, h5⟩ := hb
  unfold rlt
  split
  · simp [E.b]; omega
  · split
    · simp [E.b]; omega
    · exact mkLt_b ρ _ _
def rle (a b : R) : E := if a.hi ≤ b.lo then .bc true else if b.hi < a.lo then .bc false else mkLe a.e b.e
theorem rle_b {ρ : Env} {a b : R} (ha : a.ok ρ) (hb : b.ok ρ) : (rle a b).b ρ = decide (a.e.i ρ ≤ b.e.i ρ) := by
  obtain ⟨h2, h3⟩ := ha; obtain ⟨h4, h5⟩ := hb
  unfold rle
  split
  · simp [E.b]; omega
  · split
    · simp [E.b]; omega
    · exact mkLe_b ρ _ _
def req (a b : R) : E := if a.hi < b.lo ∨ b.hi < a.lo then .bc false else mkEq a.e b.e
theorem req_b {ρ : Env} {a b : R} (ha : a.ok ρ) (hb : b.ok ρ) : (req a b).b ρ = decide (a.e.i ρ = b.e.i ρ) := by
  obtain ⟨h2, h3⟩ := ha; obtain ⟨h4, h5⟩ := hb
  unfold req
  split
  · simp [E.b]; omega
  · exact mkEq_b ρ _ _
/-- A choice of numbers: the term. -/
def rch (d a b : E) : E :=
  if a.same b then a else
  match d with
  | .bin .eq x (.c z) => if (x.same b && (E.c z).same a) then b else .ite d a b
  | d => .ite d a b
theorem rch_i (ρ : Env) (d a b : E) : (rch d a b).i ρ = if d.b ρ = true then a.i ρ else b.i ρ := by
  unfold rch
  split
  · rename_i h; rw [E.same_eq h]; simp
  · split
    · split
      · rename_i x z h
        simp at h
        have e1 := E.same_eq h.1
        have e2 := E.same_eq h.2
        rw [← e1, ← e2]
        by_cases hx : x.i ρ = z <;> simp [E.b, E.i, hx]
      · rfl
    · rfl
/-- A choice of numbers with bounds. -/
def rite (d : E) (a b : R) : R := ⟨rch d a.e b.e, imin a.lo b.lo, imax a.hi b.hi⟩
theorem rite_i (ρ : Env) (d : E) (a b : R) : (rite d a b).e.i ρ = if d.b ρ = true then a.e.i ρ else b.e.i ρ := rch_i ρ d a.e b.e
theorem rite_t {ρ : Env} {d : E} {a b : R} (hd : d.b ρ = true) (ha : a.ok ρ) : (rite d a b).ok ρ := by
  obtain ⟨h2, h3⟩ := ha
  have hi := rite_i ρ d a b
  rw [if_pos hd] at hi
  unfold R.ok
  rw [hi]
  exact ⟨Int.le_trans (imin_l _ _) h2, Int.le_trans h3 (imax_l _ _)⟩
theorem rite_f {ρ : Env} {d : E} {a b : R} (hd : d.b ρ = false) (hb : b.ok ρ) : (rite d a b).ok ρ := by
  obtain ⟨h2, h3⟩ := hb
  have hi := rite_i ρ d a b
  rw [if_neg (by rw [hd]; simp)] at hi
  unfold R.ok
  rw [hi]
  exact ⟨Int.le_trans (imin_r _ _) h2, Int.le_trans h3 (imax_r _ _)⟩
end Go.Proofs.Ytdfpenjhpemokaa.Sx
