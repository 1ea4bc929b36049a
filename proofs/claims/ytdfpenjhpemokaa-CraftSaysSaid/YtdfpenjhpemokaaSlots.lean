/-
  Values of structs and arrays, nested, of ints, booleans and slices of flat elements: their cells, one by one.
-/
import Derived.Test.YtdfpenjhpemokaaLineK
set_option linter.unusedVariables false
set_option linter.unusedSimpArgs false
namespace Go.Proofs.Ytdfpenjhpemokaa.Sx
open Go.ChangeShapes Go.WideShapes Go.ChangeAt Go.RowKit Go.Deep

/-- The kind of a cell: an int, a boolean, a slice of flat elements. -/
inductive FK where
  | i | b | s (ks : List Bool)
  deriving DecidableEq
def FK.fits (w : World) : FK → Option Value → Prop
  | .i, v => ∃ y, v = some (.int .i64 y) ∧ B64 y
  | .b, v => ∃ y, v = some (.bool y)
  | .s ks, v => ∃ g : GD, v = some (.slice g.A g.n g.c) ∧ g.ok w ∧ g.ks = ks
def repF : Nat → List FK → List FK
  | 0, _ => []
  | m + 1, ks => ks ++ repF m ks
theorem repF_get {ks : List FK} : ∀ {m j : Nat} {k : FK}, (repF m ks)[j]? = some k → ∃ i j', i < m ∧ j = i * ks.length + j' ∧ ks[j']? = some k := by
  intro m
  induction m with
  | zero => intro j k h; simp [repF] at h
  | succ m ih =>
    intro j k h
    rw [repF, List.getElem?_append] at h
    split at h
    · exact ⟨0, j, Nat.zero_lt_succ _, by simp, h⟩
    · obtain ⟨i, j', h1, h2, h3⟩ := ih h
      exact ⟨i + 1, j', by omega, by rw [Nat.add_mul, Nat.one_mul]; omega, h3⟩
def flatSF (P : Program) (g : TypeId → Option (List FK)) : List Field → Nat → Option (List FK)
  | [], _ => some []
  | f :: l, acc => match g f.type, flatSF P g l (acc + P.cellsOf f.type) with
    | some ks, some r => if f.offset = acc ∧ P.cellsOf f.type = ks.length then some (ks ++ r) else none
    | _, _ => none
/-- The cells of a type. -/
def flatS (P : Program) : Nat → TypeId → Option (List FK)
  | 0, _ => none
  | n + 1, t => match P.underlying t with
    | some (.int .i64) => some [.i]
    | some .bool => some [.b]
    | some (.slice e) => match flatK P 10 e with
      | some ks => if 0 < ks.length ∧ P.cellsOf e = ks.length then some [.s ks] else none
      | none => none
    | some (.struct fs) => flatSF P (flatS P n) fs.toList 0
    | some (.array m e) => match flatS P n e with
      | some ks => if P.cellsOf e = ks.length then some (repF m ks) else none
      | none => none
    | _ => none
theorem flatSF_get {P : Program} {g : TypeId → Option (List FK)} : ∀ {l : List Field} {acc : Nat} {K : List FK}, flatSF P g l acc = some K → ∀ (j : Nat) (k : FK), K[j]? = some k → ∃ (i : Nat) (f : Field) (ks : List FK) (j' : Nat), l[i]? = some f ∧ g f.type = some ks ∧ P.cellsOf f.type = ks.length ∧ acc + j = f.offset + j' ∧ ks[j']? = some k := by
  intro l
  induction l with
  | nil => intro acc K h j k hk; cases h; simp at hk
  | cons f l ih =>
    intro acc K h j k hk
    simp only [flatSF] at h
    split at h
    · rename_i ks r h1 h2
      split at h
      · rename_i hc
        cases h
        rw [List.getElem?_append] at hk
        split at hk
        · exact ⟨0, f, ks, j, rfl, h1, hc.2, by omega, hk⟩
        · obtain ⟨i, f', ks', j', a1, a2, a3, a4, a5⟩ := ih h2 _ _ hk
          exact ⟨i + 1, f', ks', j', a1, a2, a3, by omega, a5⟩
      · cases h
    · cases h
section
variable {H : Type} {enc : TypeId × Value → H} {P : Program} {w : World} {base : Nat} {spare : Nat → Bool} {held : Bool}
theorem flatS_ok : ∀ {n : Nat} {t : TypeId} {K : List FK}, flatS P n t = some K → ∀ (fuel : Nat) (cs : List Value) (x : DataW H × List MemPlace), DataW.trod enc P w base spare held fuel t cs = some x → ∀ (j : Nat) (k : FK), K[j]? = some k → k.fits w cs[j]? := by
  intro n
  induction n with
  | zero => intro t K h; cases h
  | succ n ih =>
    intro t K h fuel cs x hx j k hk
    simp only [flatS] at h
    split at h
    · rename_i hu
      cases h
      obtain ⟨y, rfl, _, hw⟩ := DataW.trod_int hu hx
      match j, hk with
      | 0, hk => cases hk; exact ⟨y, rfl, wf_b64 hw⟩
    · rename_i hu
      cases h
      obtain ⟨y, rfl, _⟩ := DataW.trod_bool hu hx
      match j, hk with
      | 0, hk => cases hk; exact ⟨y, rfl⟩
    · rename_i e hu
      split at h
      · rename_i ks hf
        split at h
        · rename_i hc
          cases h
          obtain ⟨g, rfl, h1, h2⟩ := gd_at ks hc.1 hu hc.2 hf hx
          match j, hk with
          | 0, hk => cases hk; exact ⟨g, rfl, h1, h2⟩
        · cases h
      · cases h
    · rename_i fs hu
      obtain ⟨i, f, ks, j', a1, a2, a3, a4, a5⟩ := flatSF_get h j k hk
      obtain ⟨xs, m, _, _, _, hl, hf⟩ := DataW.trod_struct hu hx
      rw [Array.getElem?_toList] at a1
      have h1 := hf i f a1
      have hil : i < fs.size := (Array.getElem?_eq_some_iff.1 a1).1
      rw [List.getElem?_eq_getElem (show i < xs.length by omega)] at h1
      have h2 := ih a2 _ _ _ h1 j' k a5
      have hj : j' < ks.length := (List.getElem?_eq_some_iff.1 a5).1
      rw [List.getElem?_take, if_pos (by omega), List.getElem?_drop, ← a4, Nat.zero_add] at h2
      exact h2
    · rename_i m e hu
      split at h
      · rename_i ks hks
        split at h
        · rename_i hc
          cases h
          obtain ⟨i, j', a1, a2, a3⟩ := repF_get hk
          obtain ⟨xs, m', _, _, _, hl, hf⟩ := DataW.trod_array hu hx
          have h1 := hf i a1
          rw [List.getElem?_eq_getElem (show i < xs.length by omega)] at h1
          have h2 := ih hks _ _ _ h1 j' k a3
          have hj : j' < ks.length := (List.getElem?_eq_some_iff.1 a3).1
          rw [List.getElem?_take, if_pos (by omega), List.getElem?_drop, hc, ← a2] at h2
          exact h2
        · cases h
      · cases h
    · cases h
end
/-- Cells of these kinds. -/
def OkC (w : World) (K : List FK) (cs : List Value) : Prop := cs.length = K.length ∧ ∀ (j : Nat) (k : FK), K[j]? = some k → k.fits w cs[j]?
theorem OkC.cons {w : World} {k : FK} {K : List FK} {cs : List Value} (h : OkC w (k :: K) cs) : ∃ c cs', cs = c :: cs' ∧ k.fits w (some c) ∧ OkC w K cs' := by
  obtain ⟨h1, h2⟩ := h
  match cs, h1, h2 with
  | c :: cs, h1, h2 => exact ⟨c, cs, rfl, h2 0 k rfl, by simpa using h1, fun j k hk => h2 (j + 1) k hk⟩
theorem OkC.nil {w : World} {cs : List Value} (h : OkC w [] cs) : cs = [] := List.length_eq_zero_iff.1 h.1
theorem OkC.int {w : World} {K : List FK} {cs : List Value} (h : OkC w (.i :: K) cs) : ∃ y cs', cs = .int .i64 y :: cs' ∧ B64 y ∧ OkC w K cs' := by
  obtain ⟨c, cs', rfl, ⟨y, h1, h2⟩, h3⟩ := h.cons
  cases h1
  exact ⟨y, cs', rfl, h2, h3⟩
theorem OkC.bool {w : World} {K : List FK} {cs : List Value} (h : OkC w (.b :: K) cs) : ∃ y cs', cs = .bool y :: cs' ∧ OkC w K cs' := by
  obtain ⟨c, cs', rfl, ⟨y, h1⟩, h3⟩ := h.cons
  cases h1
  exact ⟨y, cs', rfl, h3⟩
theorem OkC.slice {w : World} {ks : List Bool} {K : List FK} {cs : List Value} (h : OkC w (.s ks :: K) cs) : ∃ (g : GD) (cs' : List Value), cs = .slice g.A g.n g.c :: cs' ∧ g.ok w ∧ g.ks = ks ∧ OkC w K cs' := by
  obtain ⟨c, cs', rfl, ⟨g, h1, h2, h4⟩, h3⟩ := h.cons
  cases h1
  exact ⟨g, cs', rfl, h2, h4, h3⟩
/-- A struct or an array among the arguments. -/
theorem flatS_open {H : Type} {enc : TypeId × Value → H} {P : Program} {w : World} {base : Nat} {spare : Nat → Bool} {held : Bool} {t : TypeId} {v : Value} {d : DataW H} {p : List MemPlace} {K : List FK} (hK : flatS P 10 t = some K) (hl : P.cellsOf t = K.length)
    (ha : (match P.underlying t with | some (.struct _) => true | some (.array _ _) => true | _ => false) = true) {r : Reach} {b0 : Nat} (hv : Value.okWide P w r b0 t v) (h : DataW.Trod enc P w base spare held t v d p) : ∃ cs : List Value, v = .agg cs.toArray ∧ OkC w K cs := by
  have hv' : ∃ cs : Array Value, v = .agg cs ∧ cs.size = P.cellsOf t := by
    unfold Value.okWide at hv
    split at ha
    · rename_i hu
      rw [hu] at hv
      obtain ⟨cs, h1, h2, _⟩ := hv
      exact ⟨cs, h1, h2⟩
    · rename_i hu
      rw [hu] at hv
      obtain ⟨cs, h1, h2, _⟩ := hv
      exact ⟨cs, h1, h2⟩
    · cases ha
  obtain ⟨⟨cs⟩, rfl, hsz⟩ := hv'
  obtain ⟨fu, hfu⟩ := h
  exact ⟨cs, rfl, by rw [← hl, ← hsz]; rfl, fun j k hk => flatS_ok hK fu cs _ hfu j k hk⟩
end Go.Proofs.Ytdfpenjhpemokaa.Sx
