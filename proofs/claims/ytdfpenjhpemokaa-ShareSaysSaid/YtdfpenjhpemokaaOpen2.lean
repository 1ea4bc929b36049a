/-
  A struct of one-cell fields among the arguments: each of its cells is as its field's type says.
-/
import Derived.Test.YtdfpenjhpemokaaOpen
import Derived.Test.YtdfpenjhpemokaaRow
set_option linter.unusedVariables false
set_option linter.unusedSimpArgs false
namespace Go.Proofs.Ytdfpenjhpemokaa
open Go.ChangeShapes Go.WideShapes Go.ChangeAt Go.RowKit Go.Deep

section
variable {H : Type} {enc : TypeId × Value → H} {P : Program} {w : World} {base : Nat} {spare : Nat → Bool} {held : Bool}

theorem trod_field {t : TypeId} {fs : Array Field} {n : Nat} {cs : List Value} {x : DataW H × List MemPlace} (hT : P.underlying t = some (.struct fs)) (hone : oneCellFields P fs = true)
    (h : DataW.trod enc P w base spare held n t cs = some x) {i : Nat} {f : Field} (hi : fs[i]? = some f) (hk0 : P.underlying f.type = some (.int .i64) ∨ P.underlying f.type = some .bool) :
    (P.underlying f.type = some (.int .i64) → ∃ y, cs[i]? = some (.int .i64 y) ∧ B64 y) ∧ (P.underlying f.type = some .bool → ∃ y, cs[i]? = some (.bool y)) := by
  obtain ⟨xs, m, _, _, _, hlx, hf⟩ := DataW.trod_struct hT h
  have h1 := hf i f hi
  obtain ⟨ho, hk⟩ := hone_of hone i f hi
  have hil : i < fs.size := (Array.getElem?_eq_some_iff.1 hi).1
  have hxs : xs[i]? = some (xs[i]'(by omega)) := List.getElem?_eq_getElem (by omega)
  rw [ho, hk, hxs] at h1
  refine ⟨fun he => ?_, fun he => ?_⟩
  · obtain ⟨y, hy, _, hw⟩ := DataW.trod_int he h1
    refine ⟨y, ?_, wf_b64 hw⟩
    have h2 : ((cs.drop i).take 1)[0]? = some (.int .i64 y) := by rw [hy]; rfl
    simpa using h2
  · obtain ⟨y, hy, _⟩ := DataW.trod_bool he h1
    refine ⟨y, ?_⟩
    have h2 : ((cs.drop i).take 1)[0]? = some (.bool y) := by rw [hy]; rfl
    simpa using h2

end
end Go.Proofs.Ytdfpenjhpemokaa
