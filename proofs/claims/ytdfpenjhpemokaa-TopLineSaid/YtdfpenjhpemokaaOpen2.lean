/-
  A struct of one-cell fields among the arguments: each of its cells is as its field's type says.
-/
import Derived.Test.YtdfpenjhpemokaaOpen
import Derived.Test.YtdfpenjhpemokaaRow
set_option linter.unusedVariables false
set_option linter.unusedSimpArgs false
namespace Go.Proofs.Ytdfpenjhpemokaa
open Go.ChangeShapes Go.WideShapes Go.ChangeAt Go.RowKit Go.Deep

section
variable {H : Type} {enc : TypeId × Value → H} {P : Program} {w : World} {base : Nat} {spare : Nat → Bool} {held : Bool}

theorem trod_field {t : TypeId} {fs : Array Field} {n : Nat} {cs : List Value} {x : DataW H × List MemPlace} (hT : P.underlying t = some (.struct fs)) (hone : oneCellFields P fs = true)
    (h : DataW.trod enc P w base spare held n t cs = some x) {i : Nat} {f : Field} (hi : fs[i]? = some f) (hk0 : P.underlying f.type = some (.int .i64) ∨ P.underlying f.type = some .bool) :
    (P.underlying f.type = some (.int .i64) → ∃ y, cs[i]? = some (.int .i64 y) ∧ B64 y) ∧ (P.underlying f.type = some .bool → ∃ y, cs[i]? = some (.bool y)) := by
  obtain ⟨xs, m, _, _, _, hlx, hf⟩ := DataW.trod_struct hT h
  have h1 := hf i f hi
  obtain ⟨ho, hk⟩ := hone_of hone i f hi
  have hil : i < fs.size := (Array.getElem?_eq_some_iff.1 hi).1
  have hxs : xs[i]? = some (xs[i]'(by omega)) := List.getElem?_eq_getElem (by omega)
  rw [ho, hk, hxs] at h1
  refine ⟨fun he => ?_, fun he => ?_⟩
  · obtain ⟨y, hy, _, hw⟩ := DataW.trod_int he h1
    refine ⟨y, ?_, wf_b64 hw⟩
    have h2 : ((cs.drop i).take 1)[0]? = some (.int .i64 y) := by rw [hy]; rfl
    simpa using h2
  · obtain ⟨y, hy, _⟩ := DataW.trod_bool he h1
    refine ⟨y, ?_⟩
    have h2 : ((cs.drop i).take 1)[0]? = some (.bool y) := by rw [hy]; rfl
    simpa using h2

/-- A slice's elements, each of k cells that are as Q says; from its cell. -/
theorem slice_at {t e : TypeId} {fuel : Nat} {cs : List Value} {x : DataW H × List MemPlace} (k : Nat) (Q : List Value → Prop) (ht : P.underlying t = some (.slice e)) (hk : P.cellsOf e = k) (hk0 : 0 < k)
    (hQ : ∀ (n : Nat) (cs : List Value) (x : DataW H × List MemPlace), DataW.trod enc P w base spare held n e cs = some x → Q cs)
    (h : DataW.trod enc P w base spare held fuel t cs = some x) :
    ∃ (A : Option Addr) (n c : Nat), cs = [.slice A n c] ∧ n ≤ c ∧ c ≤ maxLen ∧ (n = 0 ∨ ∃ b off, A = some ⟨b, off, none⟩ ∧ b < w.heap.size ∧ ∀ i, i < n → ∃ cs : List Value, cs.length = k ∧ Q cs ∧ ∀ j, j < k → w.cell? ⟨b, off + i * k + j, none⟩ = cs[j]?) := by
  rcases open_slice ht h with ⟨rfl, _⟩ | ⟨a, n, c, m, n', D, Pl, rfl, _, hl, hm, hmm, _, hx⟩
  · exact ⟨none, 0, 0, rfl, Nat.le_refl _, Nat.zero_le _, .inl rfl⟩
  · refine ⟨some a, n, c, rfl, hl, hm, ?_⟩
    by_cases hn : n = 0
    · exact .inl hn
    · right
      have hle : n ≤ m := by rw [hmm]; split <;> omega
      rw [hk] at hx
      have hcell : ∀ i, i < n → ∃ cs : List Value, cs.length = k ∧ Q cs ∧ ∀ j, j < k → w.cell? ((a.add (i * k)).add j) = cs[j]? := by
        intro i hi
        obtain ⟨cs, hc, htr⟩ := hx i (by omega)
        obtain ⟨_, hlen, hcc⟩ := World.cells?_some hc
        exact ⟨cs, hlen, hQ _ _ _ htr, hcc⟩
      obtain ⟨b, off, spot⟩ := a
      obtain ⟨cs, hlen, _, hcc⟩ := hcell 0 (by omega)
      have h1 := hcc 0 hk0
      have hs : cs[0]? = some (cs[0]'(by omega)) := List.getElem?_eq_getElem (by omega)
      rw [hs] at h1
      have hspot : spot = none := by simpa [Addr.add] using World.cell?_spot h1
      subst hspot
      have hlt : b < w.heap.size := by
        rcases Nat.lt_or_ge b w.heap.size with h2 | h2
        · exact h2
        · simp [Addr.add, World.cell?, Array.getElem?_eq_none h2] at h1
      refine ⟨b, off, rfl, hlt, fun i hi => ?_⟩
      obtain ⟨cs, h2, h3, h4⟩ := hcell i hi
      refine ⟨cs, h2, h3, fun j hj => ?_⟩
      have h5 := h4 j hj
      rwa [add_plain, add_plain] at h5

/-- A slice of ints, from its cell. -/
theorem ints_at {t e : TypeId} {fuel : Nat} {cs : List Value} {x : DataW H × List MemPlace} (ht : P.underlying t = some (.slice e)) (he : P.underlying e = some (.int .i64)) (hk : P.cellsOf e = 1)
    (h : DataW.trod enc P w base spare held fuel t cs = some x) : ∃ A n c f, cs = [.slice A n c] ∧ n ≤ 9223372036854775807 ∧ IntRow w A n f ∧ ∀ k, B64 (f k) := by
  obtain ⟨A, n, c, rfl, hnc, hcm, hs⟩ := slice_at 1 (fun cs => ∃ y : Int, cs = [.int .i64 y] ∧ B64 y) ht hk (by decide) (fun n cs x h => by
    obtain ⟨y, hy, _, hw⟩ := DataW.trod_int he h
    exact ⟨y, hy, wf_b64 hw⟩) h
  unfold maxLen at hcm
  rcases hs with rfl | ⟨b, off, rfl, hb, hcell⟩
  · exact ⟨A, 0, c, fun _ => 0, rfl, by omega, IntRow.nil _ _ _, fun _ => (by show B64 0; unfold B64; omega)⟩
  · have hf : ∀ i, ∃ y : Int, B64 y ∧ (i < n → w.cell? ⟨b, off + i, none⟩ = some (.int .i64 y)) := by
      intro i
      by_cases hi : i < n
      · obtain ⟨cs, _, ⟨y, rfl, hy⟩, hc⟩ := hcell i hi
        exact ⟨y, hy, fun _ => by have := hc 0 (by omega); simpa using this⟩
      · exact ⟨0, by unfold B64; omega, fun h => absurd h hi⟩
    obtain ⟨f, hf⟩ := Classical.axiomOfChoice hf
    exact ⟨_, n, c, f, rfl, by omega, fun k hk => ⟨b, off, rfl, hb, (hf k).2 hk⟩, fun k => (hf k).1⟩
end
end Go.Proofs.Ytdfpenjhpemokaa
