/-
  Values of structs and arrays, nested, of ints and booleans: their cells, one by one.
-/
import Derived.Test.YtdfpenjhpemokaaOpen2
import Derived.OpenShut
set_option linter.unusedVariables false
set_option linter.unusedSimpArgs false
namespace Go.Proofs.Ytdfpenjhpemokaa
open Go.ChangeShapes Go.WideShapes Go.ChangeAt Go.RowKit Go.Deep

def repK : Nat → List Bool → List Bool
  | 0, _ => []
  | m + 1, ks => ks ++ repK m ks
theorem repK_get {ks : List Bool} : ∀ {m j : Nat} {k : Bool}, (repK m ks)[j]? = some k → ∃ i j', i < m ∧ j = i * ks.length + j' ∧ ks[j']? = some k := by
  intro m
  induction m with
  | zero => intro j k h; simp [repK] at h
  | succ m ih =>
    intro j k h
    rw [repK, List.getElem?_append] at h
    split at h
    · exact ⟨0, j, Nat.zero_lt_succ _, by simp, h⟩
    · obtain ⟨i, j', h1, h2, h3⟩ := ih h
      exact ⟨i + 1, j', by omega, by rw [Nat.add_mul, Nat.one_mul]; omega, h3⟩
def flatFs (P : Program) (g : TypeId → Option (List Bool)) : List Field → Nat → Option (List Bool)
  | [], _ => some []
  | f :: l, acc => match g f.type, flatFs P g l (acc + P.cellsOf f.type) with
    | some ks, some r => if f.offset = acc ∧ P.cellsOf f.type = ks.length then some (ks ++ r) else none
    | _, _ => none
def flatK (P : Program) : Nat → TypeId → Option (List Bool)
  | 0, _ => none
  | n + 1, t => match P.underlying t with
    | some (.int .i64) => some [true]
    | some .bool => some [false]
    | some (.struct fs) => flatFs P (flatK P n) fs.toList 0
    | some (.array m e) => match flatK P n e with
      | some ks => if P.cellsOf e = ks.length then some (repK m ks) else none
      | none => none
    | _ => none
theorem flatFs_get {P : Program} {g : TypeId → Option (List Bool)} : ∀ {l : List Field} {acc : Nat} {K : List Bool}, flatFs P g l acc = some K → ∀ (j : Nat) (k : Bool), K[j]? = some k → ∃ (i : Nat) (f : Field) (ks : List Bool) (j' : Nat), l[i]? = some f ∧ g f.type = some ks ∧ P.cellsOf f.type = ks.length ∧ acc + j = f.offset + j' ∧ ks[j']? = some k := by
  intro l
  induction l with
  | nil => intro acc K h j k hk; cases h; simp at hk
  | cons f l ih =>
    intro acc K h j k hk
    simp only [flatFs] at h
    split at h
    · rename_i ks r h1 h2
      split at h
      · rename_i hc
        cases h
        rw [List.getElem?_append] at hk
        split at hk
        · exact ⟨0, f, ks, j, rfl, h1, hc.2, by omega, hk⟩
        · obtain ⟨i, f', ks', j', a1, a2, a3, a4, a5⟩ := ih h2 _ _ hk
          exact ⟨i + 1, f', ks', j', a1, a2, a3, by omega, a5⟩
      · cases h
    · cases h
section
variable {H : Type} {enc : TypeId × Value → H} {P : Program} {w : World} {base : Nat} {spare : Nat → Bool} {held : Bool}
theorem flatK_ok : ∀ {n : Nat} {t : TypeId} {K : List Bool}, flatK P n t = some K → ∀ (fuel : Nat) (cs : List Value) (x : DataW H × List MemPlace), DataW.trod enc P w base spare held fuel t cs = some x → ∀ (j : Nat) (k : Bool), K[j]? = some k → (k = true → ∃ y, cs[j]? = some (.int .i64 y) ∧ B64 y) ∧ (k = false → ∃ y, cs[j]? = some (.bool y)) := by
  intro n
  induction n with
  | zero => intro t K h; cases h
  | succ n ih =>
    intro t K h fuel cs x hx j k hk
    simp only [flatK] at h
    split at h
    · rename_i hu
      cases h
      obtain ⟨y, rfl, _, hw⟩ := DataW.trod_int hu hx
      match j, hk with
      | 0, hk => cases hk; exact ⟨fun _ => ⟨y, rfl, wf_b64 hw⟩, fun h => (by cases h)⟩
    · rename_i hu
      cases h
      obtain ⟨y, rfl, _⟩ := DataW.trod_bool hu hx
      match j, hk with
      | 0, hk => cases hk; exact ⟨fun h => (by cases h), fun _ => ⟨y, rfl⟩⟩
    · rename_i fs hu
      obtain ⟨i, f, ks, j', a1, a2, a3, a4, a5⟩ := flatFs_get h j k hk
      obtain ⟨xs, m, _, _, _, hl, hf⟩ := DataW.trod_struct hu hx
      rw [Array.getElem?_toList] at a1
      have h1 := hf i f a1
      have hil : i < fs.size := (Array.getElem?_eq_some_iff.1 a1).1
      rw [List.getElem?_eq_getElem (show i < xs.length by omega)] at h1
      have h2 := ih a2 _ _ _ h1 j' k a5
      have hj : j' < ks.length := (List.getElem?_eq_some_iff.1 a5).1
      rw [List.getElem?_take, if_pos (by omega), List.getElem?_drop, ← a4, Nat.zero_add] at h2
      exact h2
    · rename_i m e hu
      split at h
      · rename_i ks hks
        split at h
        · rename_i hc
          cases h
          obtain ⟨i, j', a1, a2, a3⟩ := repK_get hk
          obtain ⟨xs, m', _, _, _, hl, hf⟩ := DataW.trod_array hu hx
          have h1 := hf i a1
          rw [List.getElem?_eq_getElem (show i < xs.length by omega)] at h1
          have h2 := ih hks _ _ _ h1 j' k a3
          have hj : j' < ks.length := (List.getElem?_eq_some_iff.1 a3).1
          rw [List.getElem?_take, if_pos (by omega), List.getElem?_drop, hc, ← a2] at h2
          exact h2
        · cases h
      · cases h
    · cases h
end
end Go.Proofs.Ytdfpenjhpemokaa
