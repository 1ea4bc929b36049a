/-
  A verified symbolic executor, part 6: choices of values; reading operations.
-/
import Derived.Test.YtdfpenjhpemokaaSxE
import Derived.ChangeKeysEq
import Derived.Laws.CopyRow
import Derived.Laws.Rows
set_option linter.unusedVariables false
set_option linter.unusedSimpArgs false
namespace Go.Proofs.Ytdfpenjhpemokaa.Sx
open Go.RowKit (Below)

theorem err_of {ρ : Env} {b : Bd} {N : Nat → Prop} {a : R} {t : TypeId} (ht : t = ρ.et) (h1 : 1 ≤ a.lo) (h : (SV.ifc t (.int .i64 a)).ok ρ N) : (SV.err a).den ρ b = (SV.ifc t (.int .i64 a)).den ρ b := by
  have h2 : a.ok ρ := h
  have : a.e.i ρ ≠ 0 := by have := h2.1; omega
  simp only [SV.den, this, if_false, ht]

theorem mrg_t {et : TypeId} {ρ : Env} (he : ρ.et = et) {d : E} (hd : d.b ρ = true) {x y v : SV} (h : mrg et d x y = some v) {b : Bd} {N : Nat → Prop} (hx : x.ok ρ N) : v.den ρ b = x.den ρ b ∧ v.ok ρ N := by
  unfold mrg at h
  split at h
  · split at h
    · cases h
      have hi := rite_i ρ d ‹R› ‹R›
      refine ⟨?_, rite_t hd hx⟩
      simp only [SV.den, rite_i, hd, if_true]
    · cases h
  · cases h; exact ⟨by simp only [SV.den, mkIteB_b, hd, if_true], trivial⟩
  · cases h; exact ⟨rfl, trivial⟩
  · split at h
    · cases h; exact ⟨rfl, hx⟩
    · cases h
  · cases h; exact ⟨rfl, trivial⟩
  · split at h
    · cases h; exact ⟨rfl, hx⟩
    · cases h
  · split at h
    · cases h; exact ⟨rfl, hx⟩
    · cases h
  · split at h
    · cases h; exact ⟨rfl, hx⟩
    · cases h
  · split at h
    · cases h; exact ⟨rfl, hx⟩
    · cases h
  · cases h; exact ⟨rfl, trivial⟩
  · cases h; exact ⟨by simp only [SV.den, rite_i, hd, if_true], rite_t hd hx⟩
  · cases h; exact ⟨by simp only [SV.den, rite_i, hd, if_true, E.i], rite_t hd (lit0_ok ρ 0)⟩
  · cases h; exact ⟨by simp only [SV.den, rite_i, hd, if_true], rite_t hd hx⟩
  · split at h
    · rename_i hc
      cases h
      have hx' : R.ok ρ _ := hx
      refine ⟨?_, rite_t hd hx⟩
      rw [← err_of (b := b) (hc.1.trans he.symm) hc.2 hx]
      simp only [SV.den, rite_i, hd, if_true]
    · cases h
  · split at h
    · cases h
      exact ⟨by simp only [SV.den, rite_i, hd, if_true, E.i], rite_t hd (lit0_ok ρ 0)⟩
    · cases h
  · split at h
    · rename_i hc
      cases h
      refine ⟨?_, rite_t hd hx⟩
      rw [← err_of (b := b) (hc.1.trans he.symm) hc.2 hx]
      simp only [SV.den, rite_i, hd, if_true]
    · cases h
  · split at h
    · cases h
      exact ⟨by simp only [SV.den, rite_i, hd, if_true], rite_t hd hx⟩
    · cases h
  · split at h
    · cases h
      exact ⟨by simp only [SV.den, rite_i, hd, if_true], rite_t hd hx⟩
    · cases h
  · cases h; exact ⟨rfl, trivial⟩
  · cases h
theorem mrg_f {et : TypeId} {ρ : Env} (he : ρ.et = et) {d : E} (hd : d.b ρ = false) {x y v : SV} (h : mrg et d x y = some v) {b : Bd} {N : Nat → Prop} (hy : y.ok ρ N) : v.den ρ b = y.den ρ b ∧ v.ok ρ N := by
  have hf : ¬ (d.b ρ = true) := by rw [hd]; simp
  unfold mrg at h
  split at h
  · split at h
    · rename_i hk
      cases h
      subst hk
      exact ⟨by simp only [SV.den, rite_i, hf, Bool.false_eq_true, if_false], rite_f hd hy⟩
    · cases h
  · cases h; exact ⟨by simp only [SV.den, mkIteB_b, hf, Bool.false_eq_true, if_false], trivial⟩
  · cases h; exact ⟨rfl, trivial⟩
  · split at h
    · rename_i hc; cases h; obtain ⟨rfl, rfl⟩ := hc; exact ⟨rfl, hy⟩
    · cases h
  · cases h; exact ⟨rfl, trivial⟩
  · split at h
    · rename_i hc; cases h; obtain ⟨rfl, rfl, rfl, rfl⟩ := hc; exact ⟨rfl, hy⟩
    · cases h
  · split at h
    · rename_i n o l m p k hc
      cases h
      obtain ⟨rfl, rfl, h3, h4, h5⟩ := hc
      have he := E.same_eq h3
      obtain ⟨y1, y2, y3⟩ := hy
      refine ⟨by simp only [SV.den, he], y1, ?_, by omega⟩
      have := y2.1
      have := y2.2
      unfold R.ok
      rw [he, h4, h5]
      exact y2
    · cases h
  · split at h
    · rename_i n i m j hc
      cases h
      obtain ⟨rfl, h3⟩ := hc
      rw [E.same_eq h3]
      exact ⟨rfl, hy⟩
    · cases h
  · split at h
    · rename_i n s l m t k hc
      cases h
      obtain ⟨rfl, rfl, h3, h4, h5⟩ := hc
      have he := E.same_eq h3
      obtain ⟨y2, y3, y4, y5⟩ := hy
      refine ⟨by simp only [SV.den, he], ?_, by omega, by rw [he]; exact y4, by rw [he]; exact y5⟩
      unfold R.ok
      rw [he, h4, h5]
      exact y2
    · cases h
  · cases h; exact ⟨rfl, trivial⟩
  · cases h; exact ⟨by simp only [SV.den, rite_i, hf, Bool.false_eq_true, if_false], rite_f hd hy⟩
  · cases h; exact ⟨by simp only [SV.den, rite_i, hf, Bool.false_eq_true, if_false], rite_f hd hy⟩
  · cases h; exact ⟨by simp only [SV.den, rite_i, hf, Bool.false_eq_true, if_false, E.i]; simp, rite_f hd (lit0_ok ρ 0)⟩
  · split at h
    · cases h; exact ⟨by simp only [SV.den, rite_i, hf, Bool.false_eq_true, if_false, E.i]; simp, rite_f hd (lit0_ok ρ 0)⟩
    · cases h
  · split at h
    · rename_i hc
      cases h
      refine ⟨?_, rite_f hd hy⟩
      rw [← err_of (b := b) (hc.1.trans he.symm) hc.2 hy]
      simp only [SV.den, rite_i, hf, Bool.false_eq_true, if_false]
    · cases h
  · split at h
    · cases h
      exact ⟨by simp only [SV.den, rite_i, hf, Bool.false_eq_true, if_false], rite_f hd hy⟩
    · cases h
  · split at h
    · rename_i hc
      cases h
      refine ⟨?_, rite_f hd hy⟩
      rw [← err_of (b := b) (hc.1.trans he.symm) hc.2 hy]
      simp only [SV.den, rite_i, hf, Bool.false_eq_true, if_false]
    · cases h
  · split at h
    · rename_i hc
      cases h
      obtain ⟨rfl, rfl⟩ := hc
      exact ⟨by simp only [SV.den, rite_i, hf, Bool.false_eq_true, if_false], rite_f hd hy⟩
    · cases h
  · cases h; exact ⟨rfl, trivial⟩
  · cases h

def zipO {α : Type} (f : α → α → Option α) : List α → List α → Option (List α)
  | [], [] => some []
  | a :: l, c :: m => match f a c, zipO f l m with
    | some x, some r => some (x :: r)
    | _, _ => none
  | _, _ => none
def mrg1 (et : TypeId) (d : E) : SV → SV → Option SV
  | .agg l, .agg m => (zipO (mrg et d) l m).map .agg
  | .fn f l, .fn g m => if f = g then (zipO (mrg et d) l m).map (.fn f) else none
  | .ifc t (.agg l), .ifc u (.agg m) => if t = u then (zipO (mrg et d) l m).map fun r => .ifc t (.agg r) else none
  | x, y => mrg et d x y
theorem zipO_l {f : SV → SV → Option SV} {ρ : Env} {b : Bd} {N : Nat → Prop} (hf : ∀ x y v, f x y = some v → x.ok ρ N → v.den ρ b = x.den ρ b ∧ v.ok ρ N) : ∀ {l m r : List SV}, zipO f l m = some r → SV.okL ρ N l → SV.denL ρ b r = SV.denL ρ b l ∧ SV.okL ρ N r := by
  intro l
  induction l with
  | nil => intro m r h hl; cases m <;> simp [zipO] at h; rw [h]; exact ⟨rfl, trivial⟩
  | cons a l ih =>
    intro m r h hl
    cases m with
    | nil => simp [zipO] at h
    | cons c m =>
      simp only [zipO] at h
      split at h
      · rename_i x r' h1 h2
        cases h
        have e1 := hf a c x h1 hl.1
        have e2 := ih h2 hl.2
        exact ⟨by simp only [SV.denL, e1.1, e2.1], e1.2, e2.2⟩
      · cases h
theorem zipO_r {f : SV → SV → Option SV} {ρ : Env} {b : Bd} {N : Nat → Prop} (hf : ∀ x y v, f x y = some v → y.ok ρ N → v.den ρ b = y.den ρ b ∧ v.ok ρ N) : ∀ {m l r : List SV}, zipO f l m = some r → SV.okL ρ N m → SV.denL ρ b r = SV.denL ρ b m ∧ SV.okL ρ N r := by
  intro m
  induction m with
  | nil => intro l r h hl; cases l <;> simp [zipO] at h; rw [h]; exact ⟨rfl, trivial⟩
  | cons c m ih =>
    intro l r h hl
    cases l with
    | nil => simp [zipO] at h
    | cons a l =>
      simp only [zipO] at h
      split at h
      · rename_i x r' h1 h2
        cases h
        have e1 := hf a c x h1 hl.1
        have e2 := ih h2 hl.2
        exact ⟨by simp only [SV.denL, e1.1, e2.1], e1.2, e2.2⟩
      · cases h
theorem mrg1_t {et : TypeId} {ρ : Env} (he : ρ.et = et) {d : E} (hd : d.b ρ = true) {x y v : SV} (h : mrg1 et d x y = some v) {b : Bd} {N : Nat → Prop} (hx : x.ok ρ N) : v.den ρ b = x.den ρ b ∧ v.ok ρ N := by
  have hm := fun x y v (h : mrg et d x y = some v) (hx : x.ok ρ N) => mrg_t he hd h (b := b) hx
  unfold mrg1 at h
  split at h
  · rw [Option.map_eq_some_iff] at h
    obtain ⟨r, hr, rfl⟩ := h
    have := zipO_l hm hr hx
    exact ⟨by simp only [SV.den, this.1], this.2⟩
  · split at h
    · rw [Option.map_eq_some_iff] at h
      obtain ⟨r, hr, rfl⟩ := h
      have := zipO_l hm hr hx
      exact ⟨by simp only [SV.den, this.1], this.2⟩
    · cases h
  · split at h
    · rw [Option.map_eq_some_iff] at h
      obtain ⟨r, hr, rfl⟩ := h
      have := zipO_l hm hr hx
      exact ⟨by simp only [SV.den, this.1], this.2⟩
    · cases h
  · exact hm _ _ _ h hx
theorem mrg1_f {et : TypeId} {ρ : Env} (he : ρ.et = et) {d : E} (hd : d.b ρ = false) {x y v : SV} (h : mrg1 et d x y = some v) {b : Bd} {N : Nat → Prop} (hy : y.ok ρ N) : v.den ρ b = y.den ρ b ∧ v.ok ρ N := by
  have hm := fun x y v (h : mrg et d x y = some v) (hx : y.ok ρ N) => mrg_f he hd h (b := b) hx
  unfold mrg1 at h
  split at h
  · rw [Option.map_eq_some_iff] at h
    obtain ⟨r, hr, rfl⟩ := h
    have := zipO_r hm hr hy
    exact ⟨by simp only [SV.den, this.1], this.2⟩
  · split at h
    · rename_i hc
      subst hc
      rw [Option.map_eq_some_iff] at h
      obtain ⟨r, hr, rfl⟩ := h
      have := zipO_r hm hr hy
      exact ⟨by simp only [SV.den, this.1], this.2⟩
    · cases h
  · split at h
    · rename_i hc
      subst hc
      rw [Option.map_eq_some_iff] at h
      obtain ⟨r, hr, rfl⟩ := h
      have := zipO_r hm hr hy
      exact ⟨by simp only [SV.den, this.1], this.2⟩
    · cases h
  · exact hm _ _ _ h hy
end Go.Proofs.Ytdfpenjhpemokaa.Sx
/-
  A verified symbolic executor, part 7: an operation that makes a value and leaves the world alone.
-/
namespace Go.Proofs.Ytdfpenjhpemokaa.Sx
open Go.RowKit (Below)

def sSet (cs : List SV) (off : Nat) (vs : List SV) : List SV := vs.zipIdx.foldl (fun cs x => cs.set (off + x.2) x.1) cs
theorem okL_set {ρ : Env} {N : Nat → Prop} {cs : List SV} (h : SV.okL ρ N cs) {v : SV} (hv : v.ok ρ N) (i : Nat) : SV.okL ρ N (cs.set i v) :=
  (okL_all _ _ _).2 fun x hx => (List.mem_or_eq_of_mem_set hx).elim ((okL_all _ _ _).1 h x) (fun e => e ▸ hv)
theorem foldl_set_ok {ρ : Env} {N : Nat → Prop} (off : Nat) : ∀ (l : List (SV × Nat)) (cs : List SV), (∀ x ∈ l, x.1.ok ρ N) → SV.okL ρ N cs → SV.okL ρ N (l.foldl (fun cs x => cs.set (off + x.2) x.1) cs) := by
  intro l
  induction l with
  | nil => exact fun cs _ h => h
  | cons a l ih => exact fun cs hl h => ih _ (fun x hx => hl x (.tail _ hx)) (okL_set h (hl a (.head _)) _)
theorem sSet_ok {ρ : Env} {N : Nat → Prop} {cs vs : List SV} (off : Nat) (h : SV.okL ρ N cs) (hv : SV.okL ρ N vs) : SV.okL ρ N (sSet cs off vs) :=
  foldl_set_ok off _ _ (fun x hx => (okL_all _ _ _).1 hv _ (by have := List.mem_zipIdx hx; obtain ⟨_, _, e⟩ := this; rw [e]; exact List.getElem_mem _)) h
theorem foldl_set_den (ρ : Env) (b : Bd) (off : Nat) : ∀ (l : List (SV × Nat)) (cs : List SV), (l.map fun x => (x.1.den ρ b, x.2)).foldl (fun (cs : Array Value) x => cs.setIfInBounds (off + x.2) x.1) (SV.denL ρ b cs).toArray = (SV.denL ρ b (l.foldl (fun cs x => cs.set (off + x.2) x.1) cs)).toArray := by
  intro l
  induction l with
  | nil => exact fun cs => rfl
  | cons a l ih =>
    intro cs
    simp only [List.map_cons, List.foldl_cons]
    rw [← ih]
    congr 1
    rw [denL_map, denL_map, List.map_set]
    simp
theorem zipIdx_den (ρ : Env) (b : Bd) (vs : List SV) : (SV.denL ρ b vs).zipIdx = vs.zipIdx.map fun x => (x.1.den ρ b, x.2) := by
  rw [denL_map, List.zipIdx_map]; rfl

def oneOrAgg : SV → Bool
  | .agg _ => true
  | v => v.isOne
theorem oneOrAgg_ok {v : SV} (h : oneOrAgg v = true) : v.isOne = true ∨ ∃ l, v = .agg l := by
  cases v <;> simp [oneOrAgg] at h <;> first | exact .inl h | exact .inr ⟨_, rfl⟩
def sFill (place : Nat → Option (Nat × Nat)) (cells : List SV) : List (Nat × SV) → Option (List SV)
  | [] => some cells
  | (i, v) :: rest =>
    match place i with
    | none => none
    | some (off, size) => if oneOrAgg v = true ∧ v.cells.length = size ∧ off + v.cells.length ≤ cells.length then sFill place (sSet cells off v.cells) rest else none
theorem sFill_ok {place : Nat → Option (Nat × Nat)} {ρ : Env} {b : Bd} {N : Nat → Prop} : ∀ (parts : List (Nat × SV)) (cells r : List SV), sFill place cells parts = some r → SV.okL ρ N cells → (∀ x ∈ parts, x.2.ok ρ N) →
    Instr.fill place (SV.denL ρ b cells).toArray (parts.map fun x => (x.1, x.2.den ρ b)) = some (SV.denL ρ b r).toArray ∧ SV.okL ρ N r := by
  intro parts
  induction parts with
  | nil => intro cells r h hk _; cases h; exact ⟨rfl, hk⟩
  | cons a rest ih =>
    obtain ⟨i, v⟩ := a
    intro cells r h hk hp
    simp only [sFill] at h
    simp only [List.map_cons, Instr.fill]
    cases hpl : place i with
    | none => rw [hpl] at h; cases h
    | some os =>
      obtain ⟨off, size⟩ := os
      rw [hpl] at h
      dsimp only at h ⊢
      split at h
      · rename_i hc
        obtain ⟨h1, h2, h3⟩ := hc
        have hv : v.ok ρ N := hp _ (.head _)
        have hcell := SV.cells_den ρ b (oneOrAgg_ok h1)
        rw [hcell]
        have hlen : (SV.denL ρ b v.cells).toArray.size = v.cells.length := by simp [denL_length]
        have hlen2 : (SV.denL ρ b cells).toArray.size = cells.length := by simp [denL_length]
        have hcn : ¬ ((decide (v.cells.length ≠ size) || decide (off + v.cells.length > cells.length)) = true) := by simp; omega
        rw [hlen, hlen2, if_neg hcn]
        have := ih _ r h (sSet_ok off hk (SV.cells_ok hv)) (fun x hx => hp x (.tail _ hx))
        rw [← this.1]
        refine ⟨?_, this.2⟩
        congr 1
        rw [Array.zipIdx_toArray, zipIdx_den, List.foldl_toArray]
        exact foldl_set_den ρ b off v.cells.zipIdx cells
      · cases h

def evParts (A : List E) (S : St) : List (Nat × Operand) → Option (List (Nat × SV))
  | [] => some []
  | (i, x) :: l => match ev A S x, evParts A S l with
    | some v, some r => some ((i, v) :: r)
    | _, _ => none
theorem evParts_ok {ρ : Env} {b : Bd} {base : Nat → Prop} {w0 w : World} {S : St} {a : Act} {A : List E} (h : Rel ρ b base w0 w S a.tmps) (hA : allB ρ A) : ∀ {l : List (Nat × Operand)} {r : List (Nat × SV)}, evParts A S l = some r →
    (l.map fun x => (x.1, a.eval x.2)) = (r.map fun x => (x.1, x.2.den ρ b)) ∧ ∀ x ∈ r, x.2.ok ρ (· < S.next) := by
  intro l
  induction l with
  | nil => intro r h; cases h; exact ⟨rfl, fun _ h => by cases h⟩
  | cons p l ih =>
    obtain ⟨i, x⟩ := p
    intro r hr
    simp only [evParts] at hr
    split at hr
    · rename_i v r' h1 h2
      cases hr
      have e1 := ev_ok h hA h1
      have e2 := ih h2
      refine ⟨by simp only [List.map_cons, e1.1, e2.1], fun x hx => ?_⟩
      cases hx with
      | head => exact e1.2
      | tail _ hx => exact e2.2 x hx
    · cases hr
def evs (A : List E) (S : St) : List Operand → Option (List SV)
  | [] => some []
  | x :: l => match ev A S x, evs A S l with
    | some v, some r => some (v :: r)
    | _, _ => none
theorem evs_ok {ρ : Env} {b : Bd} {base : Nat → Prop} {w0 w : World} {S : St} {a : Act} {A : List E} (h : Rel ρ b base w0 w S a.tmps) (hA : allB ρ A) : ∀ {l : List Operand} {r : List SV}, evs A S l = some r →
    (l.map a.eval) = SV.denL ρ b r ∧ SV.okL ρ (· < S.next) r := by
  intro l
  induction l with
  | nil => intro r h; cases h; exact ⟨rfl, trivial⟩
  | cons x l ih =>
    intro r hr
    simp only [evs] at hr
    split at hr
    · rename_i v r' h1 h2
      cases hr
      have e1 := ev_ok h hA h1
      have e2 := ih h2
      exact ⟨by simp only [List.map_cons, e1.1, e2.1, SV.denL], e1.2, e2.2⟩
    · cases hr

def zeroT (P : Program) (t : TypeId) : Option Value := (P.info? t).bind (·.zero)
theorem run_zero {P : Program} {t : TypeId} {z : Value} (h : zeroT P t = some z) (w : World) : (zeroValue t).run P w = .ok z w := by
  unfold zeroT at h
  cases hi : P.info? t with
  | none => rw [hi] at h; cases h
  | some i =>
    rw [hi] at h
    have h' : i.zero = some z := h
    simp [zeroValue, typeInfo, hi, h']
def zeroL (z : Value) : List SV := z.cells.toList.map SV.ofValue
theorem zeroL_den (ρ : Env) (b : Bd) (z : Value) : (SV.denL ρ b (zeroL z)).toArray = z.cells := by
  rw [zeroL, denL_map, List.map_map]
  have : (SV.den ρ b ∘ SV.ofValue) = id := funext fun v => SV.ofValue_den ρ b v
  rw [this]; simp
theorem zeroL_ok (ρ : Env) (N : Nat → Prop) (z : Value) : SV.okL ρ N (zeroL z) :=
  (okL_all _ _ _).2 fun v hv => by
    obtain ⟨x, _, rfl⟩ := List.mem_map.1 hv
    exact SV.ofValue_ok ρ N x
def placesT (P : Program) : List Field → Option (List (Nat × Nat))
  | [] => some []
  | f :: l => match sizeT P f.type, placesT P l with
    | some n, some r => some ((f.offset, n) :: r)
    | _, _ => none
theorem run_places {P : Program} (w : World) : ∀ {l : List Field} {r : List (Nat × Nat)}, placesT P l = some r → (l.mapM fun f => do pure (f.offset, ← sizeOf f.type) : Sem (List (Nat × Nat))).run P w = .ok r w := by
  intro l
  induction l with
  | nil => intro r h; cases h; rfl
  | cons f l ih =>
    intro r h
    simp only [placesT] at h
    split at h
    · rename_i n r' h1 h2
      cases h
      simp only [List.mapM_cons, Sem.run_bind, run_sizeOf h1, Result.andThen, ih h2, Sem.run_pure]
    · cases h
def sBuild (P : Program) (t : TypeId) (parts : List (Nat × SV)) : Option SV :=
  match zeroT P t, P.underlying t with
  | some z, some (.struct fields) =>
    match placesT P fields.toList with
    | some pl => (sFill (pl[·]?) (zeroL z) parts).map .agg
    | none => none
  | some z, some (.array _ e) =>
    match sizeT P e with
    | some n => (sFill (fun i => some (i * n, n)) (zeroL z) parts).map .agg
    | none => none
  | _, _ => none
theorem sBuild_ok {P : Program} {t : TypeId} {parts : List (Nat × SV)} {v : SV} (h : sBuild P t parts = some v) {ρ : Env} {b : Bd} {N : Nat → Prop} (hp : ∀ x ∈ parts, x.2.ok ρ N) (w : World) (ps : Array (Nat × Value)) (hps : ps.toList = parts.map fun x => (x.1, x.2.den ρ b)) :
    (Instr.build t ps).run P w = .ok (v.den ρ b) w ∧ v.ok ρ N := by
  unfold sBuild at h
  split at h
  · rename_i z fields hz hu
    split at h
    · rename_i pl hpl
      rw [Option.map_eq_some_iff] at h
      obtain ⟨r, hr, rfl⟩ := h
      have hf := sFill_ok (b := b) parts _ _ hr (zeroL_ok ρ N z) hp
      rw [zeroL_den] at hf
      refine ⟨?_, hf.2⟩
      have hpl2 : (fields.mapM fun f => do pure (f.offset, ← sizeOf f.type) : Sem (Array (Nat × Nat))).run P w = .ok pl.toArray w := by
        rw [Array.mapM_eq_mapM_toList]
        simp only [Sem.run_map, run_places w hpl, Result.andThen]
      simp only [Instr.build, Sem.run_bind, run_zero hz, Result.andThen, run_underlying hu, hpl2]
      have e : (fun (x : Nat) => pl.toArray[x]?) = (fun x => pl[x]?) := by funext x; simp
      simp only [e, hps, hf.1]
      rfl
    · cases h
  · rename_i z n' e hz hu
    split at h
    · rename_i n hn
      rw [Option.map_eq_some_iff] at h
      obtain ⟨r, hr, rfl⟩ := h
      have hf := sFill_ok (b := b) parts _ _ hr (zeroL_ok ρ N z) hp
      rw [zeroL_den] at hf
      refine ⟨?_, hf.2⟩
      simp only [Instr.build, Sem.run_bind, run_zero hz, Result.andThen, run_underlying hu, run_sizeOf hn, hps, hf.1]
      rfl
    · cases h
  · cases h
end Go.Proofs.Ytdfpenjhpemokaa.Sx
/-
  A verified symbolic executor, part 8: one operation that makes a value and leaves the world alone, from its text.
-/
namespace Go.Proofs.Ytdfpenjhpemokaa.Sx
open Go.RowKit (Below)

def fieldT (P : Program) (s : TypeId) (i : Nat) : Option Field :=
  match P.underlying s with
  | some (.struct fields) => fields[i]?
  | _ => none
def sField (P : Program) (t : TypeId) (x : SV) (i : Nat) : Option SV :=
  match x, fieldT P t i with
  | .agg cs, some f => sPart P f.type cs f.offset
  | _, _ => none
theorem sField_ok {P : Program} {t : TypeId} {x v : SV} {i : Nat} (h : sField P t x i = some v) {ρ : Env} {b : Bd} {N : Nat → Prop} (hx : x.ok ρ N) (w : World) : (Instr.field t (x.den ρ b) i).run P w = .ok (v.den ρ b) w ∧ v.ok ρ N := by
  unfold sField at h
  split at h
  · rename_i cs f hf
    have hp := sPart_ok h (b := b) hx w
    unfold fieldT at hf
    split at hf
    · rename_i fields hu
      exact ⟨by simp [Instr.field, run_underlying hu, hf, SV.den, asAgg, hp.1], hp.2⟩
    · cases hf
  · cases h
def sFieldAddr (P : Program) (s : TypeId) (x : SV) (i : Nat) : Option SV :=
  match x, fieldT P s i with
  | .ptr n off, some f => match sizeT P f.type with
    | some 0 => none
    | some _ => some (.ptr n (off + f.offset))
    | none => none
  | .optr k sh j off, some f => match sizeT P f.type with
    | some 0 => none
    | some _ => some (.optr k sh j (off + f.offset))
    | none => none
  | _, _ => none
theorem add_lit (β o off k : Nat) : (⟨β, o + off, none⟩ : Addr).add k = ⟨β, o + (off + k), none⟩ := by
  unfold Addr.add
  split
  · rename_i h; subst h; rfl
  · simp [Nat.add_assoc]
theorem sFieldAddr_ok {P : Program} {s : TypeId} {x v : SV} {i : Nat} (h : sFieldAddr P s x i = some v) {ρ : Env} {b : Bd} {N : Nat → Prop} (hx : x.ok ρ N) (w : World) : (Instr.fieldAt s (x.den ρ b) i).run P w = .ok (v.den ρ b) w ∧ v.ok ρ N := by
  unfold sFieldAddr at h
  split at h
  · rename_i n off f hf
    unfold fieldT at hf
    split at hf
    · rename_i fields hu
      split at h
      · cases h
      · rename_i sz hne hs
        cases h
        refine ⟨?_, hx⟩
        have h0 : ¬ sz = 0 := fun e => hne e
        simp [Instr.fieldAt, run_underlying hu, hf, SV.den, Instr.sureAddr, fieldPlace, run_sizeOf hs, h0, add_lit]
      · cases h
    · cases hf
  · rename_i k sh j off f hf
    unfold fieldT at hf
    split at hf
    · rename_i fields hu
      split at h
      · cases h
      · rename_i sz hne hs
        cases h
        have h0 : ¬ sz = 0 := fun e => hne e
        refine ⟨?_, hx⟩
        obtain ⟨p, o, hov⟩ := hx.2.2.2
        simp [Instr.fieldAt, run_underlying hu, hf, SV.den, Instr.sureAddr, fieldPlace, run_sizeOf hs, h0, hov, add_lit, Nat.add_assoc]
      · cases h
    · cases hf
  · cases h
def litIx (x : SV) (len : Nat) : Option Nat :=
  match x with
  | .int _ r => if r.lo = r.hi ∧ 0 ≤ r.lo ∧ r.lo < len then some r.lo.toNat else none
  | _ => none
theorem litIx_ok {x : SV} {len i : Nat} (h : litIx x len = some i) {ρ : Env} {b : Bd} {N : Nat → Prop} (hx : x.ok ρ N) : i < len ∧ ∃ k, x.den ρ b = .int k (i : Int) := by
  unfold litIx at h
  split at h
  · rename_i k r
    split at h
    · rename_i hc
      cases h
      obtain ⟨h1, h2, h3⟩ := hc
      have : r.e.i ρ = r.lo := by have := hx.1; have := hx.2; omega
      exact ⟨by omega, k, by simp only [SV.den, this]; congr 1; omega⟩
    · cases h
  · cases h
def sIndexAddr (P : Program) (t : TypeId) (x ix : SV) : Option SV :=
  match x, P.underlying t with
  | .ptr n off, some (.array len e) => match litIx ix len, sizeT P e with
    | some i, some s => some (.ptr n (off + i * s))
    | _, _ => none
  | .sl n off len _, some (.slice e) => match litIx ix len, sizeT P e with
    | some i, some s => some (.ptr n (off + i * s))
    | _, _ => none
  | .slv n off len, some (.slice e) => match litIx ix len.lo.toNat, sizeT P e with
    | some i, some s => some (.ptr n (off + i * s))
    | _, _ => none
  | .optr k sh j off, some (.array len e) => match litIx ix len, sizeT P e with
    | some i, some s => some (.optr k sh j (off + i * s))
    | _, _ => none
  | _, _ => none
theorem sIndexAddr_ok {P : Program} {t : TypeId} {x ix v : SV} (h : sIndexAddr P t x ix = some v) {ρ : Env} {b : Bd} {N : Nat → Prop} (hx : x.ok ρ N) (hi : ix.ok ρ N) (w : World) : (Instr.indexAt t (x.den ρ b) (ix.den ρ b)).run P w = .ok (v.den ρ b) w ∧ v.ok ρ N := by
  unfold sIndexAddr at h
  split at h
  · rename_i n off len e hu
    split at h
    · rename_i i s h1 h2
      cases h
      obtain ⟨hl, k, hk⟩ := litIx_ok h1 (b := b) hi
      refine ⟨?_, hx⟩
      have hc : (0 : Int) ≤ i ∧ (i : Int) < len := by omega
      simp [Instr.indexAt, run_underlying hu, hk, asIntOf, SV.den, Instr.sureAddr, run_sizeOf h2, hl, add_lit]
    · cases h
  · rename_i n off len cap e hu
    split at h
    · rename_i i s h1 h2
      cases h
      obtain ⟨hl, k, hk⟩ := litIx_ok h1 (b := b) hi
      refine ⟨?_, hx⟩
      simp [Instr.indexAt, run_underlying hu, hk, asIntOf, SV.den, run_sizeOf h2, hl, add_lit]
    · cases h
  · rename_i n off len e hu
    split at h
    · rename_i i s h1 h2
      cases h
      obtain ⟨hl, k, hk⟩ := litIx_ok h1 (b := b) hi
      obtain ⟨x1, x2, x3⟩ := hx
      have hl2 : i < (len.e.i ρ).toNat := by have := x2.1; omega
      refine ⟨?_, x1⟩
      simp [Instr.indexAt, run_underlying hu, hk, asIntOf, SV.den, run_sizeOf h2, hl2, add_lit]
      try omega
    · cases h
  · rename_i k sh j off len e hu
    split at h
    · rename_i i s h1 h2
      cases h
      obtain ⟨hl, k, hk⟩ := litIx_ok h1 (b := b) hi
      obtain ⟨p, o, hov⟩ := hx.2.2.2
      refine ⟨?_, hx⟩
      have hc : (0 : Int) ≤ i ∧ (i : Int) < len := by omega
      simp [Instr.indexAt, run_underlying hu, hk, asIntOf, SV.den, hov, Instr.sureAddr, run_sizeOf h2, hl, add_lit, Nat.add_assoc]
    · cases h
  · cases h
def sIndex (P : Program) (t : TypeId) (x ix : SV) : Option SV :=
  match x, P.underlying t with
  | .agg cs, some (.array len e) => match litIx ix len, sizeT P e with
    | some i, some s => sPart P e cs (i * s)
    | _, _ => none
  | _, _ => none
theorem sIndex_ok {P : Program} {t : TypeId} {x ix v : SV} (h : sIndex P t x ix = some v) {ρ : Env} {b : Bd} {N : Nat → Prop} (hx : x.ok ρ N) (hi : ix.ok ρ N) (w : World) : (Instr.index t (x.den ρ b) (ix.den ρ b)).run P w = .ok (v.den ρ b) w ∧ v.ok ρ N := by
  unfold sIndex at h
  split at h
  · rename_i cs len e hu
    split at h
    · rename_i i s h1 h2
      obtain ⟨hl, k, hk⟩ := litIx_ok h1 (b := b) hi
      have hp := sPart_ok h (b := b) hx w
      refine ⟨?_, hp.2⟩
      simp [Instr.index, run_underlying hu, hk, asIntOf, SV.den, run_sizeOf h2, hl, hp.1]
    · cases h
  · cases h
def sLen (P : Program) (t : TypeId) (x : SV) : Option SV :=
  match x, P.underlying t with
  | .sl _ _ n _, some (.slice _) => some (.int .i64 ⟨.c n, n, n⟩)
  | .slv _ _ n, some (.slice _) => some (.int .i64 n)
  | .osl _ _ n, some (.slice _) => some (.int .i64 n)
  | .esl id i, some (.slice _) => some (.int .i64 ⟨.ap id (.cons i .nil), 0, 9223372036854775807⟩)
  | .emp _, some (.slice _) => some (.int .i64 ⟨.c 0, 0, 0⟩)
  | .nils, some (.slice _) => some (.int .i64 ⟨.c 0, 0, 0⟩)
  | _, some (.array n _) => some (.int .i64 ⟨.c n, n, n⟩)
  | _, _ => none
theorem sLen_ok {P : Program} {t ty : TypeId} {x v : SV} (h : sLen P t x = some v) {ρ : Env} {b : Bd} {N : Nat → Prop} (hx : x.ok ρ N) (w : World) : (Builtin.len_ #[t] ty #[x.den ρ b]).run P w = .ok (v.den ρ b) w ∧ v.ok ρ N := by
  unfold sLen at h
  split at h
  · rename_i hu
    cases h
    exact ⟨by simp [Builtin.len_, run_underlying hu, SV.den, goInt, E.i], lit0_ok ρ _⟩
  · rename_i hu
    cases h
    obtain ⟨x1, x2, x3⟩ := hx
    refine ⟨?_, x2⟩
    simp [Builtin.len_, run_underlying hu, SV.den, goInt]
    have := x2.1
    omega
  · rename_i hu
    cases h
    obtain ⟨x2, x3, _⟩ := hx
    refine ⟨?_, x2⟩
    simp [Builtin.len_, run_underlying hu, SV.den, goInt]
    have := x2.1
    omega
  · rename_i hu
    cases h
    obtain ⟨x2, x3⟩ := hx
    refine ⟨?_, ?_⟩
    · simp [Builtin.len_, run_underlying hu, SV.den, Env.slc, goInt, E.i, E.l, x2]
    · simp only [SV.ok, R.ok, E.i, E.l, x2]; omega
  · rename_i hu
    cases h
    exact ⟨by simp [Builtin.len_, run_underlying hu, SV.den, goInt, E.i], lit0_ok ρ _⟩
  · rename_i hu
    cases h
    exact ⟨by simp [Builtin.len_, run_underlying hu, SV.den, goInt, E.i], lit0_ok ρ _⟩
  · rename_i hu
    cases h
    exact ⟨by simp [Builtin.len_, run_underlying hu, SV.den, goInt, E.i], lit0_ok ρ _⟩
  · cases h
def sFoldM (f : R → R → R) : SV → List SV → Option SV
  | v, [] => some v
  | .int k a, .int j c :: l => if k = j then sFoldM f (.int k (f a c)) l else none
  | _, _ => none
theorem sMin_ok {ρ : Env} {b : Bd} {N : Nat → Prop} {P : Program} (w : World) : ∀ (l : List SV) (x v : SV), sFoldM rmin x l = some v → x.ok ρ N → SV.okL ρ N l → ((SV.denL ρ b l).foldlM Builtin.min2 (x.den ρ b) : Sem Value).run P w = .ok (v.den ρ b) w ∧ v.ok ρ N := by
  intro l
  induction l with
  | nil => intro x v h hx _; cases h; exact ⟨rfl, hx⟩
  | cons y l ih =>
    intro x v h hx hl
    unfold sFoldM at h
    split at h
    · rename_i he; cases he
    · rename_i k a j c l' he
      cases he
      split at h
      · rename_i hk
        subst hk
        have hm := rmin_ok hx hl.1
        have := ih _ v h hm.1 hl.2
        refine ⟨?_, this.2⟩
        rw [← this.1]
        have e : (if c.e.i ρ < a.e.i ρ then c.e.i ρ else a.e.i ρ) = min (a.e.i ρ) (c.e.i ρ) := by split <;> omega
        simp only [SV.denL, SV.den, List.foldlM_cons, Sem.run_bind, Builtin.min2, Sem.run_pure, Result.andThen, e, hm.2]
      · cases h
    · cases h
theorem sMax_ok {ρ : Env} {b : Bd} {N : Nat → Prop} {P : Program} (w : World) : ∀ (l : List SV) (x v : SV), sFoldM rmax x l = some v → x.ok ρ N → SV.okL ρ N l → ((SV.denL ρ b l).foldlM Builtin.max2 (x.den ρ b) : Sem Value).run P w = .ok (v.den ρ b) w ∧ v.ok ρ N := by
  intro l
  induction l with
  | nil => intro x v h hx _; cases h; exact ⟨rfl, hx⟩
  | cons y l ih =>
    intro x v h hx hl
    unfold sFoldM at h
    split at h
    · rename_i he; cases he
    · rename_i k a j c l' he
      cases he
      split at h
      · rename_i hk
        subst hk
        have hm := rmax_ok hx hl.1
        have := ih _ v h hm.1 hl.2
        refine ⟨?_, this.2⟩
        rw [← this.1]
        have e : (if c.e.i ρ > a.e.i ρ then c.e.i ρ else a.e.i ρ) = max (a.e.i ρ) (c.e.i ρ) := by split <;> omega
        simp only [SV.denL, SV.den, List.foldlM_cons, Sem.run_bind, Builtin.max2, Sem.run_pure, Result.andThen, e, hm.2]
      · cases h
    · cases h
def sNil : SV → Option SV
  | .ptr n off => some (.ptr n off)
  | .ifc t v => some (.ifc t v)
  | .fn f l => some (.fn f l)
  | _ => none

def opV (P : Program) (et : TypeId) (A : List E) (S : St) (o : Oper) : Option SV :=
  match o.op with
  | .move x => ev A S x
  | .assign x => ev A S x
  | .pick c x y =>
    match ev A S c with
    | some (.bool (.bc true)) => ev A S x
    | some (.bool (.bc false)) => ev A S y
    | some (.bool d) => match ev (d :: A) S x, ev (mkNot d :: A) S y with
      | some u, some v => mrg1 et d u v
      | _, _ => none
    | _ => none
  | .build t parts => (evParts A S parts.toList).bind (sBuild P t)
  | .load t x => match ev A S x with
    | some (.ptr n off) => match blkOf A S n with
      | some B => sPart P t B.cells off
      | none => none
    | some (.optr k sh i off) => if sh = [] then none else sPart P t (sh.zipIdx.map fun c => c.1.sv k c.2 i.e) off
    | _ => none
  | .nilCheck x => (ev A S x).bind sNil
  | .binOp op t x y _ => match ev A S x, ev A S y with
    | some u, some v => sBin P op t (isConstO x || isConstO y) u v
    | _, _ => none
  | .unOp op _ x => (ev A S x).bind (sUn op)
  | .convert s d x => (ev A S x).bind (sConv P s d)
  | .makeInterface t x => match P.underlying t, ev A S x with
    | some (.interface _), _ => none
    | some _, some v => some (.ifc t v)
    | _, _ => none
  | .makeFunc (.func f) first captured => if first.isEmpty then (evs A S captured.toList).map (.fn f) else none
  | .fieldAddr s x i => (ev A S x).bind fun v => sFieldAddr P s v i
  | .field t x i => (ev A S x).bind fun v => sField P t v i
  | .indexAddr t x i => match ev A S x, ev A S i with
    | some u, some v => sIndexAddr P t u v
    | _, _ => none
  | .index t x i => match ev A S x, ev A S i with
    | some u, some v => sIndex P t u v
    | _, _ => none
  | .extract x i => match ev A S x with
    | some (.tup l) => l[i]?
    | _ => none
  | .call { callee := .builtin .len, args := args, argTypes := ts } => match args.toList, ts.toList with
    | [x], [t] => (ev A S x).bind (sLen P t)
    | _, _ => none
  | .call { callee := .builtin .min, args := args, argTypes := _ } => match evs A S args.toList with
    | some (x :: l) => sFoldM rmin x l
    | _ => none
  | .call { callee := .builtin .max, args := args, argTypes := _ } => match evs A S args.toList with
    | some (x :: l) => sFoldM rmax x l
    | _ => none
  | _ => none

theorem opV_ok {P : Program} {et : TypeId} {ρ : Env} (he : ρ.et = et) {b : Bd} {base : Nat → Prop} {w0 w : World} {S : St} {a : Act} {A : List E} (h : Rel ρ b base w0 w S a.tmps) (hA : allB ρ A) {o : Oper} {v : SV} (ho : opV P et A S o = some v) :
    (execOp a.eval o).run P w = .ok (.value (v.den ρ b)) w ∧ v.ok ρ (· < S.next) := by
  unfold opV at ho
  split at ho
  · rename_i x hop
    have := ev_ok h hA ho
    exact ⟨by simp [execOp, hop, this.1], this.2⟩
  · rename_i x hop
    have := ev_ok h hA ho
    exact ⟨by simp [execOp, hop, this.1], this.2⟩
  · rename_i c x y hop
    split at ho
    · rename_i hc
      have e1 := ev_ok h hA hc
      have e2 := ev_ok h hA ho
      exact ⟨by simp [execOp, hop, e1.1, e2.1, SV.den, asBool, E.b], e2.2⟩
    · rename_i hc
      have e1 := ev_ok h hA hc
      have e2 := ev_ok h hA ho
      exact ⟨by simp [execOp, hop, e1.1, e2.1, SV.den, asBool, E.b], e2.2⟩
    · rename_i d _ _ hc
      have e1 := ev_ok h hA hc
      split at ho
      · rename_i u u' hu hv
        by_cases hd : d.b ρ = true
        · have e2 := ev_ok h (A := d :: A) (by intro e he; cases he with | head => exact hd | tail _ he => exact hA e he) hu
          have e3 := mrg1_t he hd ho (b := b) e2.2
          exact ⟨by simp [execOp, hop, e1.1, e2.1, SV.den, asBool, hd, e3.1], e3.2⟩
        · have hd' : d.b ρ = false := by simpa using hd
          have e2 := ev_ok h (A := mkNot d :: A) (by intro e he; cases he with | head => rw [mkNot_b, hd']; rfl | tail _ he => exact hA e he) hv
          have e3 := mrg1_f he hd' ho (b := b) e2.2
          exact ⟨by simp [execOp, hop, e1.1, e2.1, SV.den, asBool, hd', e3.1], e3.2⟩
      · cases ho
    · cases ho
  · rename_i t parts hop
    rw [Option.bind_eq_some_iff] at ho
    obtain ⟨ps, h1, h2⟩ := ho
    have e1 := evParts_ok h hA h1
    have := sBuild_ok h2 (b := b) e1.2 w (parts.map fun (i, x) => (i, a.eval x)) (by rw [Array.toList_map]; exact e1.1)
    exact ⟨by simp [execOp, hop, this.1], this.2⟩
  · rename_i t x hop
    split at ho
    · rename_i n off hx
      split at ho
      · rename_i B hB
        have e1 := ev_ok h hA hx
        have e2 := blkOf_ok h hA hB
        have := sLoad_ok ho (b := b) e2.2.2 (w := w) (a := ⟨b.β n, b.o n + off, none⟩) (fun i u hu => by
          rw [add_lit]
          exact Blk.ok.cell e2.2.1 hu)
        exact ⟨by simp [execOp, hop, e1.1, SV.den, Instr.loadAt, Instr.sureAddr, this.1], this.2⟩
      · cases ho
    · rename_i k sh i off hx
      split at ho
      · cases ho
      · have e1 := ev_ok h hA hx
        obtain ⟨_, h0, hel, p, o', hov⟩ := e1.2
        have hk : SV.okL ρ (· < S.next) (sh.zipIdx.map fun c => c.1.sv k c.2 i.e) := (okL_all _ _ _).2 fun v hv => by
          obtain ⟨⟨c, j⟩, hc, rfl⟩ := List.mem_map.1 hv
          have := List.mem_zipIdx_iff_getElem?.1 hc
          refine CK.sv_ok ?_
          have := (hel j c this).2
          rwa [Int.toNat_of_nonneg h0] at this
        have := sLoad_ok ho (b := b) hk (w := w) (a := ⟨p, o' + ((i.e.i ρ).toNat * sh.length + off), none⟩) (fun n u hu => by
          rw [List.getElem?_map] at hu
          cases hz : (sh.zipIdx)[off + n]? with
          | none => rw [hz] at hu; cases hu
          | some c =>
            rw [hz] at hu
            cases hu
            rw [List.getElem?_zipIdx] at hz
            cases hs : sh[off + n]? with
            | none => rw [hs] at hz; cases hz
            | some d =>
              rw [hs] at hz
              cases hz
              obtain ⟨hv, _⟩ := hel (off + n) d hs
              obtain ⟨p', off', g1, g2, g3⟩ := (h.kept.kept h.below).1 k _ _ hv
              rw [hov] at g1
              cases g1
              rw [add_lit]
              rw [CK.sv_den]
              rw [Int.toNat_of_nonneg h0] at g3
              simpa [Nat.add_assoc] using g3)
        exact ⟨by simp [execOp, hop, e1.1, SV.den, hov, Instr.loadAt, Instr.sureAddr, this.1], this.2⟩
    · cases ho
  · rename_i x hop
    rw [Option.bind_eq_some_iff] at ho
    obtain ⟨u, h1, h2⟩ := ho
    have e1 := ev_ok h hA h1
    unfold sNil at h2
    split at h2 <;> cases h2
    · exact ⟨by simp [execOp, hop, e1.1, SV.den], e1.2⟩
    · exact ⟨by simp [execOp, hop, e1.1, SV.den], e1.2⟩
    · exact ⟨by simp [execOp, hop, e1.1, SV.den], e1.2⟩
  · rename_i op t x y yt hop
    split at ho
    · rename_i u u' hu hv
      have e1 := ev_ok h hA hu
      have e2 := ev_ok h hA hv
      have := sBin_ok (yt := yt) ho (b := b) e1.2 e2.2 w
      refine ⟨?_, this.2⟩
      have h3 := this.1
      rw [Sem.run_bind] at h3
      simp only [execOp, hop, e1.1, e2.1, Sem.run_bind]
      rw [h3]
      rfl
    · cases ho
  · rename_i op t x hop
    rw [Option.bind_eq_some_iff] at ho
    obtain ⟨u, h1, h2⟩ := ho
    have e1 := ev_ok h hA h1
    have := sUn_ok (P := P) h2 (b := b) e1.2 w
    exact ⟨by simp [execOp, hop, e1.1, this.1], this.2⟩
  · rename_i s d x hop
    rw [Option.bind_eq_some_iff] at ho
    obtain ⟨u, h1, h2⟩ := ho
    have e1 := ev_ok h hA h1
    have := sConv_ok h2 (b := b) e1.2 w
    exact ⟨by simp [execOp, hop, e1.1, this.1], this.2⟩
  · rename_i t x hop
    split at ho
    · cases ho
    · rename_i d u hne hu hx
      cases ho
      have e1 := ev_ok h hA hx
      refine ⟨?_, e1.2⟩
      cases d <;> first
        | exact (hne _ rfl).elim
        | simp [execOp, hop, e1.1, Instr.makeInterface, run_underlying hu, SV.den]
    · cases ho
  · rename_i f first captured hop
    split at ho
    · rename_i hf
      rw [Option.map_eq_some_iff] at ho
      obtain ⟨l, h1, rfl⟩ := ho
      have e1 := evs_ok h hA h1
      refine ⟨?_, e1.2⟩
      have hfe : first = #[] := by simpa using hf
      have hc : captured.map a.eval = (SV.denL ρ b l).toArray := by
        apply Array.ext'
        simpa using e1.1
      simp [execOp, hop, Instr.makeFunc, SV.den, hfe, hc]
    · cases ho
  · rename_i s x i hop
    rw [Option.bind_eq_some_iff] at ho
    obtain ⟨u, h1, h2⟩ := ho
    have e1 := ev_ok h hA h1
    have := sFieldAddr_ok h2 (b := b) e1.2 w
    exact ⟨by simp [execOp, hop, e1.1, this.1], this.2⟩
  · rename_i t x i hop
    rw [Option.bind_eq_some_iff] at ho
    obtain ⟨u, h1, h2⟩ := ho
    have e1 := ev_ok h hA h1
    have := sField_ok h2 (b := b) e1.2 w
    exact ⟨by simp [execOp, hop, e1.1, this.1], this.2⟩
  · rename_i t x i hop
    split at ho
    · rename_i u u' hu hv
      have e1 := ev_ok h hA hu
      have e2 := ev_ok h hA hv
      have := sIndexAddr_ok ho (b := b) e1.2 e2.2 w
      exact ⟨by simp [execOp, hop, e1.1, e2.1, this.1], this.2⟩
    · cases ho
  · rename_i t x i hop
    split at ho
    · rename_i u u' hu hv
      have e1 := ev_ok h hA hu
      have e2 := ev_ok h hA hv
      have := sIndex_ok ho (b := b) e1.2 e2.2 w
      exact ⟨by simp [execOp, hop, e1.1, e2.1, this.1], this.2⟩
    · cases ho
  · rename_i x i hop
    split at ho
    · rename_i l hx
      have e1 := ev_ok h hA hx
      refine ⟨?_, okL_get e1.2 ho⟩
      simp [execOp, hop, e1.1, SV.den, Instr.extract, denL_get, ho]
    · cases ho
  · rename_i args ts hop
    split at ho
    · rename_i x t hx ht
      rw [Option.bind_eq_some_iff] at ho
      obtain ⟨u, h1, h2⟩ := ho
      have e1 := ev_ok h hA h1
      have := sLen_ok (N := (· < S.next)) (ty := o.type) h2 (ρ := ρ) (b := b) e1.2 w
      refine ⟨?_, this.2⟩
      obtain rfl : args = #[x] := by apply Array.ext'; simpa using hx
      obtain rfl : ts = #[t] := by apply Array.ext'; simpa using ht
      simp [execOp, hop, resolve, invoke, builtin, e1.1, this.1]
    · cases ho
  · rename_i args ts hop
    split at ho
    · rename_i x l hx
      have e1 := evs_ok h hA hx
      have := sMin_ok (P := P) (b := b) w l x v ho e1.2.1 e1.2.2
      refine ⟨?_, this.2⟩
      have hm : (args.map a.eval).toList = x.den ρ b :: SV.denL ρ b l := by rw [Array.toList_map, e1.1]; rfl
      simp only [execOp, hop, resolve, invoke, builtin, Sem.run_bind, Sem.run_pure, Result.andThen, Builtin.min_, hm, this.1]
    · cases ho
  · rename_i args ts hop
    split at ho
    · rename_i x l hx
      have e1 := evs_ok h hA hx
      have := sMax_ok (P := P) (b := b) w l x v ho e1.2.1 e1.2.2
      refine ⟨?_, this.2⟩
      have hm : (args.map a.eval).toList = x.den ρ b :: SV.denL ρ b l := by rw [Array.toList_map, e1.1]; rfl
      simp only [execOp, hop, resolve, invoke, builtin, Sem.run_bind, Sem.run_pure, Result.andThen, Builtin.max_, hm, this.1]
    · cases ho
  · cases ho
end Go.Proofs.Ytdfpenjhpemokaa.Sx
/-
  A verified symbolic executor, part 8b: equality of structs, arrays and errors; what an interface holds.
-/
namespace Go.Proofs.Ytdfpenjhpemokaa.Sx
open Go.RowKit (Below)

def eqFieldsS (P : Program) (eq : TypeId → SV → SV → Option E) (l m : List SV) : List Field → Option E
  | [] => some (.bc true)
  | f :: fs =>
    if f.name ≠ "_" then
      match sPart P f.type l f.offset, sPart P f.type m f.offset with
      | some a, some c => match eq f.type a c, eqFieldsS P eq l m fs with
        | some x, some y => some (mkAnd x y)
        | _, _ => none
      | _, _ => none
    else eqFieldsS P eq l m fs
def eqItemsS (P : Program) (eq : TypeId → SV → SV → Option E) (e : TypeId) (s : Nat) (l m : List SV) : List Nat → Option E
  | [] => some (.bc true)
  | i :: is =>
    match sPart P e l (i * s), sPart P e m (i * s) with
    | some a, some c => match eq e a c, eqItemsS P eq e s l m is with
      | some x, some y => some (mkAnd x y)
      | _, _ => none
    | _, _ => none
def sEqIn (P : Program) : Nat → TypeId → SV → SV → Option E
  | 0, _, _, _ => none
  | k + 1, t, x, y =>
    match P.underlying t, x, y with
    | some .bool, .bool a, .bool c => some (mkBeq a c)
    | some (.int _), .int i a, .int j c => if i = j then some (req a c) else none
    | some (.struct fs), .agg l, .agg m => if P.stoodInHeld t then none else eqFieldsS P (sEqIn P k) l m fs.toList
    | some (.array n e), .agg l, .agg m => match P.info? e with
      | some _ => eqItemsS P (sEqIn P k) e (P.cellsOf e) l m (List.range n)
      | none => none
    | _, _, _ => none
theorem sEqIn_ok {P : Program} {ρ : Env} {b : Bd} {N : Nat → Prop} (w : World) : ∀ (k : Nat) (t : TypeId) (x y : SV) (e : E), sEqIn P k t x y = some e → x.ok ρ N → y.ok ρ N → ∀ d, k ≤ d → (Op.equalIn d t (x.den ρ b) (y.den ρ b)).run P w = .ok (e.b ρ) w := by
  intro k
  induction k with
  | zero => intro t x y e h; cases h
  | succ k ih =>
    intro t x y e h hx hy d hd
    obtain ⟨d, rfl⟩ : ∃ d', d = d' + 1 := ⟨d - 1, by omega⟩
    simp only [sEqIn] at h
    split at h
    · rename_i a c hu
      cases h
      simp only [SV.den, mkBeq_b]
      exact eqIn_bool d hu _ _ w
    · rename_i i' i a j c hu
      split at h
      · rename_i hij
        subst hij
        cases h
        simp only [SV.den, req_b hx hy, ← beq_dec]
        simp [Op.equalIn, run_underlying hu]
      · cases h
    · rename_i fs l m hu
      split at h
      · cases h
      · rename_i hp
        have hf : P.fieldsOf t = fs := by unfold Program.fieldsOf; rw [hu]
        simp only [SV.den]
        rw [run_equalIn_struct w d t _ _ (by rw [hf]; exact hu) (by simpa using hp), hf]
        revert h
        generalize fs.toList = gs
        intro h
        induction gs generalizing e with
        | nil => cases h; simp [Op.eqFields, E.b]
        | cons f gs ihg =>
          simp only [eqFieldsS] at h
          simp only [Op.eqFields]
          split at h
          · rename_i hn
            rw [if_pos hn]
            split at h
            · rename_i a c h1 h2
              split at h
              · rename_i u v h3 h4
                cases h
                have e1 := sPart_ok h1 (b := b) hx w
                have e2 := sPart_ok h2 (b := b) hy w
                have e3 := ih _ _ _ _ h3 e1.2 e2.2 d (by omega)
                simp only [Sem.run_bind, e1.1, e2.1, e3, Result.andThen_ok, mkAnd_b]
                cases hub : u.b ρ with
                | false => simp
                | true => simp [ihg v h4]
              · cases h
            · cases h
          · rename_i hn
            rw [if_neg hn]
            exact ihg e h
    · rename_i n el l m hu
      split at h
      · rename_i i hi
        simp only [SV.den]
        rw [run_equalIn_array w d _ _ hu hi]
        revert h
        generalize List.range n = is
        intro h
        induction is generalizing e with
        | nil => cases h; simp [Op.eqItems, E.b]
        | cons j is ihg =>
          simp only [eqItemsS] at h
          simp only [Op.eqItems]
          split at h
          · rename_i a c h1 h2
            split at h
            · rename_i u v h3 h4
              cases h
              have e1 := sPart_ok h1 (b := b) hx w
              have e2 := sPart_ok h2 (b := b) hy w
              have e3 := ih _ _ _ _ h3 e1.2 e2.2 d (by omega)
              simp only [Sem.run_bind, e1.1, e2.1, e3, Result.andThen_ok, mkAnd_b]
              cases hub : u.b ρ with
              | false => simp
              | true => simp [ihg v h4]
            · cases h
          · cases h
      · cases h
    · cases h

def opX (P : Program) (et : TypeId) (A : List E) (S : St) (o : Oper) : Option SV :=
  match o.op with
  | .binOp op t x y _ =>
    match ev A S x, ev A S y with
    | some (.agg l), some (.agg m) =>
      if P.eqGuardType P.depth t then none else
      match op, sEqIn P 8 t (.agg l) (.agg m) with
      | .eql, some e => some (.bool e)
      | .neq, some e => some (.bool (mkNot e))
      | _, _ => none
    | _, _ => none
  | .typeAssert x _ t two =>
    match P.underlying t, ev A S x with
    | some (.interface _), _ => none
    | some _, some (.ifc u v) => if u = t then some (if two then .tup [v, .bool (.bc true)] else v) else none
    | _, _ => none
  | _ => none
theorem opX_ok {P : Program} {et : TypeId} {ρ : Env} {b : Bd} {base : Nat → Prop} {w0 w : World} {S : St} {a : Act} {A : List E} (h : Rel ρ b base w0 w S a.tmps) (hA : allB ρ A) {o : Oper} {v : SV} (ho : opX P et A S o = some v) :
    (execOp a.eval o).run P w = .ok (.value (v.den ρ b)) w ∧ v.ok ρ (· < S.next) := by
  unfold opX at ho
  split at ho
  · rename_i op t x y yt hop
    split at ho
    · rename_i l m hx hy
      split at ho
      · cases ho
      · rename_i hg
        have e1 := ev_ok h hA hx
        have e2 := ev_ok h hA hy
        have g : (eqGuard op t x y (.agg (SV.denL ρ b l).toArray) (.agg (SV.denL ρ b m).toArray)).run P w = .ok () w := run_eqGuard_agg w op t x y _ _ (by simpa using hg)
        have key : ∀ e, sEqIn P 8 t (.agg l) (.agg m) = some e → (Op.equalIn 10000 t (.agg (SV.denL ρ b l).toArray) (.agg (SV.denL ρ b m).toArray)).run P w = .ok (e.b ρ) w := fun e he => sEqIn_ok w 8 t _ _ e he e1.2 e2.2 10000 (by omega)
        split at ho
        · rename_i e he
          cases ho
          refine ⟨?_, trivial⟩
          simp only [execOp, hop, e1.1, e2.1, SV.den, Sem.run_bind, g, Result.andThen_ok, run_eql_struct, key e he, Sem.run_pure]
        · rename_i e he
          cases ho
          refine ⟨?_, trivial⟩
          simp only [execOp, hop, e1.1, e2.1, SV.den, Sem.run_bind, g, Result.andThen_ok, run_neq_struct, key e he, Sem.run_pure, mkNot_b]
        · cases ho
    · cases ho
  · rename_i x xt t two hop
    split at ho
    · cases ho
    · rename_i dd u v' hne hu hx
      split at ho
      · rename_i hut
        subst hut
        cases ho
        have e1 := ev_ok h hA hx
        have hrun : (Instr.typeAssert (.iface u (v'.den ρ b)) xt u two).run P w = .ok (if two then .tuple #[v'.den ρ b, .bool true] else v'.den ρ b) w := by
          cases dd <;> first
            | exact (hne _ rfl).elim
            | (simp [Instr.typeAssert, run_underlying hu])
        refine ⟨?_, ?_⟩
        · simp only [execOp, hop, e1.1, SV.den, Sem.run_bind, hrun, Result.andThen_ok, Sem.run_pure]
          cases two <;> rfl
        · cases two
          · exact e1.2
          · exact ⟨e1.2, trivial, trivial⟩
      · cases ho
    · cases ho
  · cases ho
def opU (P : Program) (et : TypeId) (A : List E) (S : St) (o : Oper) : Option SV := match opV P et A S o with
  | some v => some v
  | none => opX P et A S o
theorem opU_ok {P : Program} {et : TypeId} {ρ : Env} (he : ρ.et = et) {b : Bd} {base : Nat → Prop} {w0 w : World} {S : St} {a : Act} {A : List E} (h : Rel ρ b base w0 w S a.tmps) (hA : allB ρ A) {o : Oper} {v : SV} (ho : opU P et A S o = some v) :
    (execOp a.eval o).run P w = .ok (.value (v.den ρ b)) w ∧ v.ok ρ (· < S.next) := by
  unfold opU at ho
  split at ho
  · rename_i u hu
    cases ho
    exact opV_ok he h hA hu
  · exact opX_ok h hA ho
end Go.Proofs.Ytdfpenjhpemokaa.Sx
/-
  A verified symbolic executor, part 9: operations that make blocks or write into them.
-/
namespace Go.Proofs.Ytdfpenjhpemokaa.Sx
open Go.RowKit (Below)

def Bd.put (b : Bd) (n β o κ : Nat) : Bd := ⟨fun m => if m = n then β else b.β m, fun m => if m = n then o else b.o m, fun m => if m = n then κ else b.κ m⟩
theorem Bd.put_agree {N : Nat → Prop} (b : Bd) {n : Nat} (β o κ : Nat) (hn : ¬ N n) : Agree b (b.put n β o κ) N := by
  intro m hm
  have : ¬ m = n := fun e => hn (e ▸ hm)
  simp [Bd.put, this]
theorem Agree.refl (b : Bd) (N : Nat → Prop) : Agree b b N := fun _ _ => ⟨rfl, rfl, rfl⟩
theorem Agree.trans {b c d : Bd} {N M : Nat → Prop} (h : Agree b c N) (k : Agree c d M) (hNM : ∀ n, N n → M n) : Agree b d N := fun n hn => by
  obtain ⟨a1, a2, a3⟩ := h n hn
  obtain ⟨b1, b2, b3⟩ := k n (hNM n hn)
  exact ⟨b1.trans a1, b2.trans a2, b3.trans a3⟩

theorem Blk.ok.lt {ρ : Env} {b : Bd} {base : Nat → Prop} {w : World} {n : Nat} {B : Blk} (h : B.ok ρ b base w n) (hb : (∀ k, base k → k < w.heap.size)) : b.β n < w.heap.size := by
  by_cases ho : B.own = true
  · exact (h.base ho).2.1
  · unfold Blk.ok at h
    unfold Blk.own at ho
    split at h
    · simp_all
    · simp_all
    · exact hb _ h.1

theorem HRel.mono {ρ : Env} {b b' : Bd} {base : Nat → Prop} {w w' : World} {H : List (Nat × HEnt)} {N M : Nat → Prop} (h : HRel ρ b base w H N) (hb : Agree b b' N) (hN : ∀ n, N n → M n) (hw : ∀ k, k < w.heap.size → w'.heap[k]? = w.heap[k]?) (hbase : (∀ k, base k → k < w.heap.size)) : HRel ρ b' base w' H M where
  mem := fun n e hf hg => by
    obtain ⟨h1, h2, h3⟩ := h.mem n e hf hg
    exact ⟨hN n h1, h2.keep h1 h3 hb (hw _ (h2.lt hbase)), SV.okL_mono hN _ h3⟩
  inj := fun n m e k hf hk hg hgk ho hok heq => by
    obtain ⟨h1, _, _⟩ := h.mem n e hf hg
    obtain ⟨h2, _, _⟩ := h.mem m k hk hgk
    exact h.inj n m e k hf hk hg hgk ho hok (by rw [← (hb n h1).1, ← (hb m h2).1]; exact heq)

theorem HRel.new {ρ : Env} {b : Bd} {base : Nat → Prop} {w : World} {H : List (Nat × HEnt)} {nx : Nat} (h : HRel ρ b base w H (· < nx)) (hbase : (∀ k, base k → k < w.heap.size)) {cells : List SV} (hk : SV.okL ρ (· < nx) cells) (elem : TypeId) :
    HRel ρ (b.put nx w.heap.size 0 0) base (w.alloc (.cells (SV.denL ρ b cells).toArray elem)) (push H nx ⟨[], ⟨cells, elem, .full⟩⟩) (· < nx + 1) := by
  have hn : ¬ (nx < nx) := Nat.lt_irrefl _
  have ha : Agree b (b.put nx w.heap.size 0 0) (· < nx) := Bd.put_agree b _ _ _ hn
  have hm := h.mono (w' := w.alloc (.cells (SV.denL ρ b cells).toArray elem)) (M := (· < nx + 1)) ha (fun n h => Nat.lt_succ_of_lt h) (fun k hk => heap_alloc_old w _ k hk) hbase
  have hput : (b.put nx w.heap.size 0 0).β nx = w.heap.size := by simp [Bd.put]
  constructor
  · intro n e hf hg
    rw [find_push] at hf
    split at hf
    · rename_i hnn
      subst hnn
      cases hf
      refine ⟨Nat.lt_succ_self _, ⟨by simp [Bd.put], by rw [hput]; exact fun hc => Nat.lt_irrefl _ (hbase _ hc), ?_⟩, SV.okL_mono (fun n h => Nat.lt_succ_of_lt h) _ hk⟩
      rw [hput, heap_alloc_new, SV.denL_agree ha _ hk]
    · exact hm.mem n e hf hg
  · intro n m e k hf hkf hg hgk ho hok heq
    rw [find_push] at hf hkf
    split at hf
    · rename_i hnn
      subst hnn
      split at hkf
      · rename_i hmm; exact hmm
      · exfalso
        obtain ⟨h1, h2, _⟩ := h.mem m k hkf hgk
        have h3 := (ha m h1).1
        rw [hput] at heq
        rw [h3] at heq
        have := (h2.base hok).2.1
        omega
    · split at hkf
      · rename_i hmm
        subst hmm
        exfalso
        obtain ⟨h1, h2, _⟩ := h.mem n e hf hg
        have h3 := (ha n h1).1
        rw [hput, h3] at heq
        have := (h2.base ho).2.1
        omega
      · exact hm.inj n m e k hf hkf hg hgk ho hok heq

theorem HRel.write {ρ : Env} {b : Bd} {base : Nat → Prop} {w w' : World} {H : List (Nat × HEnt)} {N : Nat → Prop} (h : HRel ρ b base w H N) {n : Nat} {e : HEnt} (hf : find H n = some e) (hg : allB ρ e.g) (ho : e.blk.own = true)
    {B : Blk} (hB : B.own = true) (hok : B.ok ρ b base w' n) (hk : SV.okL ρ N B.cells) (hw : ∀ k, k ≠ b.β n → w'.heap[k]? = w.heap[k]?) : HRel ρ b base w' (upd H n ⟨e.g, B⟩) N where
  mem := fun m x hm hgm => by
    rw [find_upd] at hm
    split at hm
    · rename_i hnm
      subst hnm
      cases hm
      exact ⟨(h.mem n e hf hg).1, hok, hk⟩
    · rename_i hnm
      obtain ⟨h1, h2, h3⟩ := h.mem m x hm hgm
      refine ⟨h1, h2.keep h1 h3 (Agree.refl b N) (hw _ ?_), h3⟩
      intro heq
      by_cases hox : x.blk.own = true
      · exact hnm (h.inj n m e x hf hm hg hgm ho hox heq.symm)
      · have e1 := ((h.mem n e hf hg).2.1.base ho).1
        have : base (b.β m) := by
          unfold Blk.ok at h2
          unfold Blk.own at hox
          split at h2
          · simp_all
          · simp_all
          · exact h2.1
        rw [heq] at this
        exact e1 this
  inj := fun m p x y hm hp hgm hgp hox hoy heq => by
    rw [find_upd] at hm hp
    split at hm
    · rename_i hnm
      subst hnm
      cases hm
      split at hp
      · assumption
      · exact h.inj n p e y hf hp hg hgp ho hoy heq
    · split at hp
      · rename_i hnp
        subst hnp
        cases hp
        exact h.inj m n x e hm hf hgm hg hox ho heq
      · exact h.inj m p x y hm hp hgm hgp hox hoy heq

def St.new (S : St) (cells : List SV) (elem : TypeId) : St := { S with heap := push S.heap S.next ⟨[], ⟨cells, elem, .full⟩⟩, next := S.next + 1 }
theorem Rel.new {ρ : Env} {b : Bd} {base : Nat → Prop} {w0 w : World} {S : St} {tm : Array Value} (h : Rel ρ b base w0 w S tm) {cells : List SV} (hk : SV.okL ρ (· < S.next) cells) (elem : TypeId) :
    Agree b (b.put S.next w.heap.size 0 0) (· < S.next) ∧ Rel ρ (b.put S.next w.heap.size 0 0) base w0 (w.alloc (.cells (SV.denL ρ b cells).toArray elem)) (S.new cells elem) tm := by
  have ha : Agree b (b.put S.next w.heap.size 0 0) (· < S.next) := Bd.put_agree b _ _ _ (Nat.lt_irrefl _)
  refine ⟨ha, h.heap.new h.base hk elem, fun i e hf => ?_, h.below.alloc h.base _, fun k hk => by rw [World.size_alloc]; exact Nat.lt_succ_of_lt (h.base k hk), h.nt, h.kept⟩
  obtain ⟨h1, h2⟩ := h.tmps i e hf
  refine ⟨fun hg => ?_, h2⟩
  obtain ⟨h3, h4⟩ := h1 hg
  exact ⟨by rw [SV.den_agree ha _ h4]; exact h3, SV.ok_mono (fun n h => Nat.lt_succ_of_lt h) _ h4⟩

def sPut (cs : List SV) (off : Nat) (vs : List SV) : List SV := cs.take off ++ vs ++ cs.drop (off + vs.length)
theorem sPut_ok {ρ : Env} {N : Nat → Prop} {cs vs : List SV} (off : Nat) (h : SV.okL ρ N cs) (hv : SV.okL ρ N vs) : SV.okL ρ N (sPut cs off vs) :=
  (okL_all _ _ _).2 fun x hx => by
    unfold sPut at hx
    rw [List.mem_append, List.mem_append] at hx
    rcases hx with (hx | hx) | hx
    · exact (okL_all _ _ _).1 h x (List.mem_of_mem_take hx)
    · exact (okL_all _ _ _).1 hv x hx
    · exact (okL_all _ _ _).1 h x (List.mem_of_mem_drop hx)
theorem put_get {cs vs : List SV} {off i : Nat} {v : SV} {arr : List Value} (f : SV → Value) (hl : off + vs.length ≤ cs.length) (ha : cs.length ≤ arr.length) (h : ∀ (i : Nat) (v : SV), cs[i]? = some v → arr[i]? = some (f v)) (hi : (sPut cs off vs)[i]? = some v) :
    (arr.take off ++ vs.map f ++ arr.drop (off + vs.length))[i]? = some (f v) := by
  unfold sPut at hi
  rw [List.append_assoc] at hi ⊢
  rw [List.getElem?_append] at hi ⊢
  have e1 : (cs.take off).length = off := by simp; omega
  have e2 : (arr.take off).length = off := by simp; omega
  rw [e1] at hi
  rw [e2]
  split at hi
  · rename_i hlt
    rw [if_pos hlt]
    rw [List.getElem?_take] at hi ⊢
    rw [if_pos hlt] at hi ⊢
    exact h i v hi
  · rename_i hlt
    rw [if_neg hlt]
    rw [List.getElem?_append] at hi ⊢
    rw [List.length_map]
    split at hi
    · rename_i h2
      rw [if_pos h2, List.getElem?_map, hi]; rfl
    · rename_i h2
      rw [if_neg h2]
      rw [List.getElem?_drop] at hi ⊢
      exact h _ v hi

def sStore (P : Program) (A : List E) (S : St) (t : TypeId) (x v : SV) : Option St :=
  match x with
  | .ptr n off =>
    match find S.heap n with
    | some h =>
      if h.g.isEmpty = true ∧ h.blk.own = true ∧ A.isEmpty = true ∧ oneOrAgg v = true ∧ v.cells.all SV.isOne = true ∧ sizeT P t = some v.cells.length ∧ off + v.cells.length ≤ h.blk.cells.length
      then some { S with heap := upd S.heap n ⟨h.g, { h.blk with cells := sPut h.blk.cells off v.cells }⟩ } else none
    | none => none
  | _ => none
theorem sStore_ok {P : Program} {A : List E} {S S' : St} {t : TypeId} {x v : SV} (hs : sStore P A S t x v = some S') {ρ : Env} {b : Bd} {base : Nat → Prop} {w0 w : World} {tm : Array Value} (h : Rel ρ b base w0 w S tm) (hv : v.ok ρ (· < S.next)) :
    ∃ w', (Instr.storeAt t (x.den ρ b) (v.den ρ b)).run P w = .ok () w' ∧ Rel ρ b base w0 w' S' tm ∧ S'.next = S.next := by
  unfold sStore at hs
  split at hs
  · rename_i n off
    split at hs
    · rename_i e hf
      split at hs
      · rename_i hc
        cases hs
        obtain ⟨h1, h2, _, h3, h4, h5, h6⟩ := hc
        have hg : allB ρ e.g := by have : e.g = [] := by simpa using h1
                                   rw [this]; intro _ h; cases h
        obtain ⟨m1, m2, m3⟩ := h.heap.mem n e hf hg
        have hcell := SV.cells_den ρ b (oneOrAgg_ok h3)
        have hlen : (v.den ρ b).cells.size = v.cells.length := by rw [hcell]; simp [denL_length]
        have hone : ∀ u ∈ SV.denL ρ b v.cells, u.oneCell' = true := by
          intro u hu
          rw [denL_map, List.mem_map] at hu
          obtain ⟨y, hy, rfl⟩ := hu
          exact (SV.isOne_den (List.all_eq_true.1 h4 y hy) ρ b).1
        have hvk : SV.okL ρ (· < S.next) v.cells := SV.cells_ok hv
        have hb := m2.base h2
        have key : ∃ arr : Array Value, w.heap[b.β n]? = some (.cells arr e.blk.elem (0, 0)) ∧ e.blk.cells.length ≤ arr.size ∧ (∀ w', w'.heap[b.β n]? = some (.cells (arr.toList.take off ++ SV.denL ρ b v.cells ++ arr.toList.drop (off + v.cells.length)).toArray e.blk.elem (0, 0)) → Blk.ok ρ b base w' n { e.blk with cells := sPut e.blk.cells off v.cells }) := by
          have hm2 := m2
          unfold Blk.ok at m2
          split at m2
          · rename_i hkd
            obtain ⟨a1, a2, a3⟩ := m2
            refine ⟨_, a3, by simp [denL_length], fun w' hw' => ?_⟩
            unfold Blk.ok
            simp only [hkd]
            refine ⟨a1, a2, ?_⟩
            rw [hw', denL_map, denL_map]
            simp [sPut, denL_map, List.map_take, List.map_drop]
          · rename_i sz hkd
            obtain ⟨a1, a2, arr, a3, a4, a5, a6⟩ := m2
            refine ⟨arr, a3, a5, fun w' hw' => ?_⟩
            unfold Blk.ok
            simp only [hkd]
            refine ⟨a1, a2, _, hw', ?_, ?_, ?_⟩
            · rw [← a4]; simp [denL_length]; omega
            · simp [sPut, denL_length]; omega
            · intro i u hi
              have := put_get (SV.den ρ b) (arr := arr.toList) h6 (by simpa using a5) (fun i v hi => by simpa using a6 i v hi) hi
              rw [denL_map]
              simpa using this
          · rename_i hkd
            unfold Blk.own at h2
            rw [hkd] at h2
            cases h2
        obtain ⟨arr, k1, k2, k3⟩ := key
        have hrun := run_storeCells_at P (b.β n) off e.blk.elem (SV.denL ρ b v.cells) 0 arr w k1 (by rw [denL_length]; omega) hone
        refine ⟨_, ?_, ⟨h.heap.write hf hg h2 (B := { e.blk with cells := sPut e.blk.cells off v.cells }) h2 (k3 _ (by
          have := setRow_heap w (b.β n) arr (arr.toList.take (off + 0) ++ SV.denL ρ b v.cells ++ arr.toList.drop (off + 0 + (SV.denL ρ b v.cells).length)).toArray e.blk.elem _ k1
          rw [this, denL_length]
          simp)) (sPut_ok off m3 hvk) (fun k hk => setRow_other w (b.β n) k _ hk), h.tmps, ?_, ?_, h.nt, h.kept⟩, rfl⟩
        · simp only [Instr.storeAt, SV.den, Instr.sureAddr, storeVar, Sem.run_bind, Sem.run_pure, Result.andThen, run_sizeOf h5, hlen]
          rw [if_neg (by simp)]
          rw [hcell]
          have e0 : b.o n + off = off := by rw [hb.2.2]; omega
          rw [e0]
          exact hrun
        · have hbel := h.below
          exact ⟨hbel.os, hbel.tape, hbel.output, by simpa using hbel.size, fun k hk => by
            rw [setRow_other w (b.β n) k _ (fun e => hb.1 (e ▸ hk))]; exact hbel.block k hk⟩
        · have := h.base; simpa using this
      · cases hs
    · cases hs
  · cases hs
end Go.Proofs.Ytdfpenjhpemokaa.Sx
