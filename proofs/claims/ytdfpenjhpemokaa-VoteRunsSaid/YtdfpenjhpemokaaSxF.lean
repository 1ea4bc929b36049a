/-
  A verified symbolic executor, part 6: choices of values; reading operations.
-/
import Derived.Test.YtdfpenjhpemokaaSxE
set_option linter.unusedVariables false
set_option linter.unusedSimpArgs false
namespace Go.Proofs.Ytdfpenjhpemokaa.Sx
open Go.RowKit (Below)

theorem err_of {ρ : Env} {b : Bd} {N : Nat → Prop} {a : R} {t : TypeId} (ht : t = ρ.et) (h1 : 1 ≤ a.lo) (h : (SV.ifc t (.int .i64 a)).ok ρ N) : (SV.err a).den ρ b = (SV.ifc t (.int .i64 a)).den ρ b := by
  have h2 : a.ok ρ := h
  have : a.e.i ρ ≠ 0 := by have := h2.1; omega
  simp only [SV.den, this, if_false, ht]

theorem mrg_t {et : TypeId} {ρ : Env} (he : ρ.et = et) {d : E} (hd : d.b ρ = true) {x y v : SV} (h : mrg et d x y = some v) {b : Bd} {N : Nat → Prop} (hx : x.ok ρ N) : v.den ρ b = x.den ρ b ∧ v.ok ρ N := by
  unfold mrg at h
  split at h
  · split at h
    · cases h
      have hi := rite_i ρ d ‹R› ‹R›
      refine ⟨?_, rite_t hd hx⟩
      simp only [SV.den, rite_i, hd, if_true]
    · cases h
  · cases h; exact ⟨by simp only [SV.den, mkIteB_b, hd, if_true], trivial⟩
  · cases h; exact ⟨rfl, trivial⟩
  · split at h
    · cases h; exact ⟨rfl, hx⟩
    · cases h
  · cases h; exact ⟨rfl, trivial⟩
  · split at h
    · cases h; exact ⟨rfl, hx⟩
    · cases h
  · split at h
    · cases h; exact ⟨rfl, hx⟩
    · cases h
  · split at h
    · cases h; exact ⟨rfl, hx⟩
    · cases h
  · split at h
    · cases h; exact ⟨rfl, hx⟩
    · cases h
  · cases h; exact ⟨rfl, trivial⟩
  · cases h; exact ⟨by simp only [SV.den, rite_i, hd, if_true], rite_t hd hx⟩
  · cases h; exact ⟨by simp only [SV.den, rite_i, hd, if_true, E.i], rite_t hd (lit0_ok ρ 0)⟩
  · cases h; exact ⟨by simp only [SV.den, rite_i, hd, if_true], rite_t hd hx⟩
  · split at h
    · rename_i hc
      cases h
      have hx' : R.ok ρ _ := hx
      refine ⟨?_, rite_t hd hx⟩
      rw [← err_of (b := b) (hc.1.trans he.symm) hc.2 hx]
      simp only [SV.den, rite_i, hd, if_true]
    · cases h
  · split at h
    · cases h
      exact ⟨by simp only [SV.den, rite_i, hd, if_true, E.i], rite_t hd (lit0_ok ρ 0)⟩
    · cases h
  · split at h
    · rename_i hc
      cases h
      refine ⟨?_, rite_t hd hx⟩
      rw [← err_of (b := b) (hc.1.trans he.symm) hc.2 hx]
      simp only [SV.den, rite_i, hd, if_true]
    · cases h
  · split at h
    · cases h
      exact ⟨by simp only [SV.den, rite_i, hd, if_true], rite_t hd hx⟩
    · cases h
  · split at h
    · cases h
      exact ⟨by simp only [SV.den, rite_i, hd, if_true], rite_t hd hx⟩
    · cases h
  · cases h; exact ⟨rfl, trivial⟩
  · cases h
theorem mrg_f {et : TypeId} {ρ : Env} (he : ρ.et = et) {d : E} (hd : d.b ρ = false) {x y v : SV} (h : mrg et d x y = some v) {b : Bd} {N : Nat → Prop} (hy : y.ok ρ N) : v.den ρ b = y.den ρ b ∧ v.ok ρ N := by
  have hf : ¬ (d.b ρ = true) := by rw [hd]; simp
  unfold mrg at h
  split at h
  · split at h
    · rename_i hk
      cases h
      subst hk
      exact ⟨by simp only [SV.den, rite_i, hf, Bool.false_eq_true, if_false], rite_f hd hy⟩
    · cases h
  · cases h; exact ⟨by simp only [SV.den, mkIteB_b, hf, Bool.false_eq_true, if_false], trivial⟩
  · cases h; exact ⟨rfl, trivial⟩
  · split at h
    · rename_i hc; cases h; obtain ⟨rfl, rfl⟩ := hc; exact ⟨rfl, hy⟩
    · cases h
  · cases h; exact ⟨rfl, trivial⟩
  · split at h
    · rename_i hc; cases h; obtain ⟨rfl, rfl, rfl, rfl⟩ := hc; exact ⟨rfl, hy⟩
    · cases h
  · split at h
    · rename_i n o l m p k hc
      cases h
      obtain ⟨rfl, rfl, h3, h4, h5⟩ := hc
      have he := E.same_eq h3
      obtain ⟨y1, y2, y3⟩ := hy
      refine ⟨by simp only [SV.den, he], y1, ?_, by omega⟩
      have := y2.1
      have := y2.2
      unfold R.ok
      rw [he, h4, h5]
      exact y2
    · cases h
  · split at h
    · rename_i n i m j hc
      cases h
      obtain ⟨rfl, h3⟩ := hc
      rw [E.same_eq h3]
      exact ⟨rfl, hy⟩
    · cases h
  · split at h
    · rename_i n s l m t k hc
      cases h
      obtain ⟨rfl, rfl, h3, h4, h5⟩ := hc
      have he := E.same_eq h3
      obtain ⟨y2, y3, y4, y5⟩ := hy
      refine ⟨by simp only [SV.den, he], ?_, by omega, by rw [he]; exact y4, by rw [he]; exact y5⟩
      unfold R.ok
      rw [he, h4, h5]
      exact y2
    · cases h
  · cases h; exact ⟨rfl, trivial⟩
  · cases h; exact ⟨by simp only [SV.den, rite_i, hf, Bool.false_eq_true, if_false], rite_f hd hy⟩
  · cases h; exact ⟨by simp only [SV.den, rite_i, hf, Bool.false_eq_true, if_false], rite_f hd hy⟩
  · cases h; exact ⟨by simp only [SV.den, rite_i, hf, Bool.false_eq_true, if_false, E.i]; simp, rite_f hd (lit0_ok ρ 0)⟩
  · split at h
    · cases h; exact ⟨by simp only [SV.den, rite_i, hf, Bool.false_eq_true, if_false, E.i]; simp, rite_f hd (lit0_ok ρ 0)⟩
    · cases h
  · split at h
    · rename_i hc
      cases h
      refine ⟨?_, rite_f hd hy⟩
      rw [← err_of (b := b) (hc.1.trans he.symm) hc.2 hy]
      simp only [SV.den, rite_i, hf, Bool.false_eq_true, if_false]
    · cases h
  · split at h
    · cases h
      exact ⟨by simp only [SV.den, rite_i, hf, Bool.false_eq_true, if_false], rite_f hd hy⟩
    · cases h
  · split at h
    · rename_i hc
      cases h
      refine ⟨?_, rite_f hd hy⟩
      rw [← err_of (b := b) (hc.1.trans he.symm) hc.2 hy]
      simp only [SV.den, rite_i, hf, Bool.false_eq_true, if_false]
    · cases h
  · split at h
    · rename_i hc
      cases h
      obtain ⟨rfl, rfl⟩ := hc
      exact ⟨by simp only [SV.den, rite_i, hf, Bool.false_eq_true, if_false], rite_f hd hy⟩
    · cases h
  · cases h; exact ⟨rfl, trivial⟩
  · cases h

def zipO {α : Type} (f : α → α → Option α) : List α → List α → Option (List α)
  | [], [] => some []
  | a :: l, c :: m => match f a c, zipO f l m with
    | some x, some r => some (x :: r)
    | _, _ => none
  | _, _ => none
/-- Of aggregates too. -/
def mrg1 (et : TypeId) (d : E) : SV → SV → Option SV
  | .agg l, .agg m => (zipO (mrg et d) l m).map .agg
  | .fn f l, .fn g m => if f = g then (zipO (mrg et d) l m).map (.fn f) else none
  | .ifc t (.agg l), .ifc u (.agg m) => if t = u then (zipO (mrg et d) l m).map fun r => .ifc t (.agg r) else none
  | x, y => mrg et d x y
/-- Of tuples too. -/
def mrg2 (et : TypeId) (d : E) : SV → SV → Option SV
  | .tup l, .tup m => (zipO (mrg1 et d) l m).map .tup
  | x, y => mrg1 et d x y
theorem zipO_l {f : SV → SV → Option SV} {ρ : Env} {b : Bd} {N : Nat → Prop} (hf : ∀ x y v, f x y = some v → x.ok ρ N → v.den ρ b = x.den ρ b ∧ v.ok ρ N) : ∀ {l m r : List SV}, zipO f l m = some r → SV.okL ρ N l → SV.denL ρ b r = SV.denL ρ b l ∧ SV.okL ρ N r := by
  intro l
  induction l with
  | nil => intro m r h hl; cases m <;> simp [zipO] at h; rw [h]; exact ⟨rfl, trivial⟩
  | cons a l ih =>
    intro m r h hl
    cases m with
    | nil => simp [zipO] at h
    | cons c m =>
      simp only [zipO] at h
      split at h
      · rename_i x r' h1 h2
        cases h
        have e1 := hf a c x h1 hl.1
        have e2 := ih h2 hl.2
        exact ⟨by simp only [SV.denL, e1.1, e2.1], e1.2, e2.2⟩
      · cases h
theorem zipO_r {f : SV → SV → Option SV} {ρ : Env} {b : Bd} {N : Nat → Prop} (hf : ∀ x y v, f x y = some v → y.ok ρ N → v.den ρ b = y.den ρ b ∧ v.ok ρ N) : ∀ {m l r : List SV}, zipO f l m = some r → SV.okL ρ N m → SV.denL ρ b r = SV.denL ρ b m ∧ SV.okL ρ N r := by
  intro m
  induction m with
  | nil => intro l r h hl; cases l <;> simp [zipO] at h; rw [h]; exact ⟨rfl, trivial⟩
  | cons c m ih =>
    intro l r h hl
    cases l with
    | nil => simp [zipO] at h
    | cons a l =>
      simp only [zipO] at h
      split at h
      · rename_i x r' h1 h2
        cases h
        have e1 := hf a c x h1 hl.1
        have e2 := ih h2 hl.2
        exact ⟨by simp only [SV.denL, e1.1, e2.1], e1.2, e2.2⟩
      · cases h
theorem mrg1_t {et : TypeId} {ρ : Env} (he : ρ.et = et) {d : E} (hd : d.b ρ = true) {x y v : SV} (h : mrg1 et d x y = some v) {b : Bd} {N : Nat → Prop} (hx : x.ok ρ N) : v.den ρ b = x.den ρ b ∧ v.ok ρ N := by
  have hm := fun x y v (h : mrg et d x y = some v) (hx : x.ok ρ N) => mrg_t he hd h (b := b) hx
  unfold mrg1 at h
  split at h
  · rw [Option.map_eq_some_iff] at h
    obtain ⟨r, hr, rfl⟩ := h
    have := zipO_l hm hr hx
    exact ⟨by simp only [SV.den, this.1], this.2⟩
  · split at h
    · rw [Option.map_eq_some_iff] at h
      obtain ⟨r, hr, rfl⟩ := h
      have := zipO_l hm hr hx
      exact ⟨by simp only [SV.den, this.1], this.2⟩
    · cases h
  · split at h
    · rw [Option.map_eq_some_iff] at h
      obtain ⟨r, hr, rfl⟩ := h
      have := zipO_l hm hr hx
      exact ⟨by simp only [SV.den, this.1], this.2⟩
    · cases h
  · exact hm _ _ _ h hx
theorem mrg1_f {et : TypeId} {ρ : Env} (he : ρ.et = et) {d : E} (hd : d.b ρ = false) {x y v : SV} (h : mrg1 et d x y = some v) {b : Bd} {N : Nat → Prop} (hy : y.ok ρ N) : v.den ρ b = y.den ρ b ∧ v.ok ρ N := by
  have hm := fun x y v (h : mrg et d x y = some v) (hx : y.ok ρ N) => mrg_f he hd h (b := b) hx
  unfold mrg1 at h
  split at h
  · rw [Option.map_eq_some_iff] at h
    obtain ⟨r, hr, rfl⟩ := h
    have := zipO_r hm hr hy
    exact ⟨by simp only [SV.den, this.1], this.2⟩
  · split at h
    · rename_i hc
      subst hc
      rw [Option.map_eq_some_iff] at h
      obtain ⟨r, hr, rfl⟩ := h
      have := zipO_r hm hr hy
      exact ⟨by simp only [SV.den, this.1], this.2⟩
    · cases h
  · split at h
    · rename_i hc
      subst hc
      rw [Option.map_eq_some_iff] at h
      obtain ⟨r, hr, rfl⟩ := h
      have := zipO_r hm hr hy
      exact ⟨by simp only [SV.den, this.1], this.2⟩
    · cases h
  · exact hm _ _ _ h hy
theorem mrg2_t {et : TypeId} {ρ : Env} (he : ρ.et = et) {d : E} (hd : d.b ρ = true) {x y v : SV} (h : mrg2 et d x y = some v) {b : Bd} {N : Nat → Prop} (hx : x.ok ρ N) : v.den ρ b = x.den ρ b ∧ v.ok ρ N := by
  unfold mrg2 at h
  split at h
  · rw [Option.map_eq_some_iff] at h
    obtain ⟨r, hr, rfl⟩ := h
    have := zipO_l (fun x y v h hx => mrg1_t he hd h (b := b) hx) hr hx
    exact ⟨by simp only [SV.den, this.1], this.2⟩
  · exact mrg1_t he hd h hx
theorem mrg2_f {et : TypeId} {ρ : Env} (he : ρ.et = et) {d : E} (hd : d.b ρ = false) {x y v : SV} (h : mrg2 et d x y = some v) {b : Bd} {N : Nat → Prop} (hy : y.ok ρ N) : v.den ρ b = y.den ρ b ∧ v.ok ρ N := by
  unfold mrg2 at h
  split at h
  · rw [Option.map_eq_some_iff] at h
    obtain ⟨r, hr, rfl⟩ := h
    have := zipO_r (fun x y v h hx => mrg1_f he hd h (b := b) hx) hr hy
    exact ⟨by simp only [SV.den, this.1], this.2⟩
  · exact mrg1_f he hd h hy
end Go.Proofs.Ytdfpenjhpemokaa.Sx
