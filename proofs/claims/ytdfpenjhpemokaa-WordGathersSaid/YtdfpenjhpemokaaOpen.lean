/-
  Slices among the arguments, opened: what their cells hold.
-/
import Derived.Test.YtdfpenjhpemokaaFrame
import Derived.Deep.Slices
import Derived.Deep.Fields
set_option linter.unusedVariables false
set_option linter.unusedSimpArgs false
namespace Go.Proofs.Ytdfpenjhpemokaa
open Go.ChangeShapes Go.WideShapes Go.ChangeAt Go.RowKit Go.Deep

section
variable {H : Type} {enc : TypeId × Value → H} {P : Program} {w : World} {base : Nat} {spare : Nat → Bool} {held : Bool}

theorem slice_elems {t e : TypeId} {v : Value} {d : DataW H} {p : List MemPlace} (k : Nat) (Q : List Value → Prop) (ht : P.underlying t = some (.slice e)) (hk : P.cellsOf e = k) (hk0 : 0 < k)
    (hQ : ∀ (n : Nat) (cs : List Value) (x : DataW H × List MemPlace), DataW.trod enc P w base spare held n e cs = some x → Q cs)
    {r : Reach} {b0 : Nat} (hv : Value.okWide P w r b0 t v) (h : DataW.Trod enc P w base spare held t v d p) :
    ∃ (A : Option Addr) (n c : Nat), v = .slice A n c ∧ n ≤ c ∧ c ≤ maxLen ∧ (n = 0 ∨ ∃ b off, A = some ⟨b, off, none⟩ ∧ b < w.heap.size ∧ ∀ i, i < n → ∃ cs : List Value, cs.length = k ∧ Q cs ∧ ∀ j, j < k → w.cell? ⟨b, off + i * k + j, none⟩ = cs[j]?) := by
  obtain ⟨A, n, c, rfl⟩ := okWide_slice ht hv
  obtain ⟨fuel, hf⟩ := h
  have hcs : (Value.slice A n c).cells.toList = [.slice A n c] := rfl
  rw [hcs] at hf
  rcases open_slice ht hf with ⟨h0, _⟩ | ⟨a, len, cap, m, n', D, Pl, h0, _, hl, hm, hmm, _, hx⟩
  · simp at h0
    obtain ⟨rfl, rfl, rfl⟩ := h0
    exact ⟨none, 0, 0, rfl, Nat.le_refl _, Nat.zero_le _, .inl rfl⟩
  · simp at h0
    obtain ⟨rfl, rfl, rfl⟩ := h0
    refine ⟨some a, n, c, rfl, hl, hm, ?_⟩
    by_cases hn : n = 0
    · exact .inl hn
    · right
      have hle : n ≤ m := by rw [hmm]; split <;> omega
      rw [hk] at hx
      have hcell : ∀ i, i < n → ∃ cs : List Value, cs.length = k ∧ Q cs ∧ ∀ j, j < k → w.cell? ((a.add (i * k)).add j) = cs[j]? := by
        intro i hi
        obtain ⟨cs, hc, htr⟩ := hx i (by omega)
        obtain ⟨_, hlen, hcc⟩ := World.cells?_some hc
        exact ⟨cs, hlen, hQ _ _ _ htr, hcc⟩
      obtain ⟨b, off, spot⟩ := a
      obtain ⟨cs, hlen, _, hcc⟩ := hcell 0 (by omega)
      have h1 := hcc 0 hk0
      have hs : cs[0]? = some (cs[0]'(by omega)) := List.getElem?_eq_getElem (by omega)
      rw [hs] at h1
      have hspot : spot = none := by simpa [Addr.add] using World.cell?_spot h1
      subst hspot
      have hlt : b < w.heap.size := by
        rcases Nat.lt_or_ge b w.heap.size with h2 | h2
        · exact h2
        · simp [Addr.add, World.cell?, Array.getElem?_eq_none h2] at h1
      refine ⟨b, off, rfl, hlt, fun i hi => ?_⟩
      obtain ⟨cs, h2, h3, h4⟩ := hcell i hi
      refine ⟨cs, h2, h3, fun j hj => ?_⟩
      have h5 := h4 j hj
      rwa [add_plain, add_plain] at h5

end
end Go.Proofs.Ytdfpenjhpemokaa
