/-
  A struct of one-cell fields among the arguments: each of its cells is as its field's type says.
-/
import Derived.Test.YtdfpenjhpemokaaOpen
import Derived.Test.YtdfpenjhpemokaaRow
set_option linter.unusedVariables false
set_option linter.unusedSimpArgs false
namespace Go.Proofs.Ytdfpenjhpemokaa
open Go.ChangeShapes Go.WideShapes Go.ChangeAt Go.RowKit Go.Deep

section
variable {H : Type} {enc : TypeId × Value → H} {P : Program} {w : World} {base : Nat} {spare : Nat → Bool} {held : Bool}

theorem slice_at {t e : TypeId} {fuel : Nat} {cs : List Value} {x : DataW H × List MemPlace} (k : Nat) (Q : List Value → Prop) (ht : P.underlying t = some (.slice e)) (hk : P.cellsOf e = k) (hk0 : 0 < k)
    (hQ : ∀ (n : Nat) (cs : List Value) (x : DataW H × List MemPlace), DataW.trod enc P w base spare held n e cs = some x → Q cs)
    (h : DataW.trod enc P w base spare held fuel t cs = some x) :
    ∃ (A : Option Addr) (n c : Nat), cs = [.slice A n c] ∧ n ≤ c ∧ c ≤ maxLen ∧ (n = 0 ∨ ∃ b off, A = some ⟨b, off, none⟩ ∧ b < w.heap.size ∧ ∀ i, i < n → ∃ cs : List Value, cs.length = k ∧ Q cs ∧ ∀ j, j < k → w.cell? ⟨b, off + i * k + j, none⟩ = cs[j]?) := by
  rcases open_slice ht h with ⟨rfl, _⟩ | ⟨a, n, c, m, n', D, Pl, rfl, _, hl, hm, hmm, _, hx⟩
  · exact ⟨none, 0, 0, rfl, Nat.le_refl _, Nat.zero_le _, .inl rfl⟩
  · refine ⟨some a, n, c, rfl, hl, hm, ?_⟩
    by_cases hn : n = 0
    · exact .inl hn
    · right
      have hle : n ≤ m := by rw [hmm]; split <;> omega
      rw [hk] at hx
      have hcell : ∀ i, i < n → ∃ cs : List Value, cs.length = k ∧ Q cs ∧ ∀ j, j < k → w.cell? ((a.add (i * k)).add j) = cs[j]? := by
        intro i hi
        obtain ⟨cs, hc, htr⟩ := hx i (by omega)
        obtain ⟨_, hlen, hcc⟩ := World.cells?_some hc
        exact ⟨cs, hlen, hQ _ _ _ htr, hcc⟩
      obtain ⟨b, off, spot⟩ := a
      obtain ⟨cs, hlen, _, hcc⟩ := hcell 0 (by omega)
      have h1 := hcc 0 hk0
      have hs : cs[0]? = some (cs[0]'(by omega)) := List.getElem?_eq_getElem (by omega)
      rw [hs] at h1
      have hspot : spot = none := by simpa [Addr.add] using World.cell?_spot h1
      subst hspot
      have hlt : b < w.heap.size := by
        rcases Nat.lt_or_ge b w.heap.size with h2 | h2
        · exact h2
        · simp [Addr.add, World.cell?, Array.getElem?_eq_none h2] at h1
      refine ⟨b, off, rfl, hlt, fun i hi => ?_⟩
      obtain ⟨cs, h2, h3, h4⟩ := hcell i hi
      refine ⟨cs, h2, h3, fun j hj => ?_⟩
      have h5 := h4 j hj
      rwa [add_plain, add_plain] at h5

end
end Go.Proofs.Ytdfpenjhpemokaa
