/-
  Opening a struct of two slices and a slice of slices.
-/
import Derived.Test.YtdfpenjhpemokaaLineK
import Derived.Test.YtdfpenjhpemokaaSxStd
set_option linter.unusedVariables false
set_option linter.unusedSimpArgs false
namespace Go.Proofs.Ytdfpenjhpemokaa.Sx
open Go.ChangeShapes Go.WideShapes Go.ChangeAt Go.Deep Go.RowKit in
theorem nd_at {H : Type} {enc : TypeId × Value → H} {P : Program} {w : World} {base : Nat} {spare : Nat → Bool} {held : Bool} {t s e : TypeId} {fu : Nat} {cs : List Value} {x : DataW H × List MemPlace} (ks : List Bool) (h0 : 0 < ks.length) (ht : P.underlying t = some (.slice s)) (hs : P.underlying s = some (.slice e)) (hc : P.cellsOf s = 1) (hk : P.cellsOf e = ks.length) (hf : flatK P 10 e = some ks)
    (hx : DataW.trod enc P w base spare held fu t cs = some x) : ∃ D : ND, cs = [.slice D.A D.n D.c] ∧ D.ok w ks := by
  obtain ⟨A, n, c, rfl, hnc, hcm, hS⟩ := slice_at 1 (fun cs => ∃ g : GD, cs = [.slice g.A g.n g.c] ∧ g.ok w ∧ g.ks = ks) ht hc (by decide) (fun n cs x hx => gd_at ks h0 hs hk hf hx) hx
  have hcm' : c ≤ 9223372036854775807 := by unfold maxLen at hcm; omega
  have gz : ∃ g : GD, g.ok w ∧ g.ks = ks := ⟨⟨none, 0, 0, ks, fun _ _ => 0, fun _ _ => false⟩, ⟨Nat.zero_le _, fun _ _ h => absurd h (Nat.not_lt_zero _), fun _ _ => (by show B64 0; unfold B64; omega)⟩, rfl⟩
  rcases hS with rfl | ⟨b, off, rfl, hb, hcell⟩
  · obtain ⟨g, g1, g2⟩ := gz
    exact ⟨⟨A, c, 0, fun _ => g⟩, rfl, ⟨Nat.zero_le _, fun _ h => absurd h (Nat.not_lt_zero _), fun _ => ⟨g1, g2⟩⟩⟩
  · have hf : ∀ i, ∃ g : GD, (g.ok w ∧ g.ks = ks) ∧ (i < n → w.cell? ⟨b, off + i, none⟩ = some (.slice g.A g.n g.c)) := by
      intro i
      by_cases hi : i < n
      · obtain ⟨cs, _, ⟨g, rfl, g1, g2⟩, h2⟩ := hcell i hi
        have h3 := h2 0 (by decide)
        rw [Nat.mul_one, Nat.add_zero] at h3
        exact ⟨g, ⟨g1, g2⟩, fun _ => h3⟩
      · obtain ⟨g, g1, g2⟩ := gz
        exact ⟨g, ⟨g1, g2⟩, fun h => absurd h hi⟩
    obtain ⟨f, hf⟩ := Classical.axiomOfChoice hf
    exact ⟨⟨some ⟨b, off, none⟩, c, n, f⟩, rfl, ⟨by show n ≤ _; omega, fun i hi => ⟨b, off, rfl, hb, (hf i).2 hi⟩, fun i => (hf i).1⟩⟩
open Go.ChangeShapes Go.WideShapes Go.ChangeAt Go.Deep Go.RowKit in
theorem grid_open {H : Type} {enc : TypeId × Value → H} {P : Program} {w : World} {base : Nat} {spare : Nat → Bool} {held : Bool} {t s e e' e'' : TypeId} {f0 f1 f2 : Field} {v : Value} {d : DataW H} {p : List MemPlace}
    (ht : P.underlying t = some (.struct #[f0, f1, f2])) (hone : oneCellFields P #[f0, f1, f2] = true) (hl : P.cellsOf t = 3)
    (hs : P.underlying f0.type = some (.slice e)) (hk : P.cellsOf e = 1) (hf : flatK P 10 e = some [true])
    (hs' : P.underlying f1.type = some (.slice e')) (hk' : P.cellsOf e' = 1) (hf' : flatK P 10 e' = some [true])
    (hs'' : P.underlying f2.type = some (.slice s)) (ht'' : P.underlying s = some (.slice e'')) (hc'' : P.cellsOf s = 1) (hk'' : P.cellsOf e'' = 1) (hf'' : flatK P 10 e'' = some [true])
    {r : Reach} {b0 : Nat} (hv : Value.okWide P w r b0 t v) (hx : DataW.Trod enc P w base spare held t v d p) : ∃ (g g' : GD) (D : ND), v = .agg #[.slice g.A g.n g.c, .slice g'.A g'.n g'.c, .slice D.A D.n D.c] ∧ g.ok w ∧ g.ks = [true] ∧ g'.ok w ∧ g'.ks = [true] ∧ D.ok w [true] := by
  have hv' : ∃ cs, v = .agg cs ∧ cs.size = P.cellsOf t := by
    unfold Value.okWide at hv
    rw [ht] at hv
    obtain ⟨cs, h1, h2, _⟩ := hv
    exact ⟨cs, h1, h2⟩
  obtain ⟨⟨cs⟩, rfl, hsz⟩ := hv'
  obtain ⟨fu, hfu⟩ := hx
  have hcs : (Value.agg ⟨cs⟩).cells.toList = cs := rfl
  rw [hcs] at hfu
  have hl : cs.length = 3 := by rw [← hl, ← hsz]; rfl
  obtain ⟨xs, m, _, _, _, hlx, hF⟩ := DataW.trod_struct ht hfu
  have a0 := hF 0 f0 rfl
  have a1 := hF 1 f1 rfl
  have a2 := hF 2 f2 rfl
  obtain ⟨o0, k0⟩ := hone_of hone 0 f0 rfl
  obtain ⟨o1, k1⟩ := hone_of hone 1 f1 rfl
  obtain ⟨o2, k2⟩ := hone_of hone 2 f2 rfl
  have hx0 : xs[0]? = some (xs[0]'(by simp at hlx; omega)) := List.getElem?_eq_getElem (by simp at hlx; omega)
  have hx1 : xs[1]? = some (xs[1]'(by simp at hlx; omega)) := List.getElem?_eq_getElem (by simp at hlx; omega)
  have hx2 : xs[2]? = some (xs[2]'(by simp at hlx; omega)) := List.getElem?_eq_getElem (by simp at hlx; omega)
  rw [o0, k0, hx0] at a0
  rw [o1, k1, hx1] at a1
  rw [o2, k2, hx2] at a2
  obtain ⟨g, e0, q1, q2⟩ := gd_at [true] (by decide) hs hk hf a0
  obtain ⟨g', e1, q3, q4⟩ := gd_at [true] (by decide) hs' hk' hf' a1
  obtain ⟨D, e2, q5⟩ := nd_at [true] (by decide) hs'' ht'' hc'' hk'' hf'' a2
  obtain ⟨c0, c1, c2, rfl⟩ : ∃ c0 c1 c2, cs = [c0, c1, c2] := by
    match cs, hl with
    | [c0, c1, c2], _ => exact ⟨c0, c1, c2, rfl⟩
  have e0 : [c0] = [.slice g.A g.n g.c] := e0
  have e1 : [c1] = [.slice g'.A g'.n g'.c] := e1
  have e2 : [c2] = [.slice D.A D.n D.c] := e2
  cases e0
  cases e1
  cases e2
  exact ⟨g, g', D, rfl, q1, q2, q3, q4, q5⟩
end Go.Proofs.Ytdfpenjhpemokaa.Sx
