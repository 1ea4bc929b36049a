/-
  A verified symbolic executor, part 7: an operation that makes a value and leaves the world alone.
-/
import Derived.Test.YtdfpenjhpemokaaSxF
set_option linter.unusedVariables false
set_option linter.unusedSimpArgs false
namespace Go.Proofs.Ytdfpenjhpemokaa.Sx
open Go.RowKit (Below)

/-- cells from 'off' on replaced. -/
def sSet (cs : List SV) (off : Nat) (vs : List SV) : List SV := vs.zipIdx.foldl (fun cs x => cs.set (off + x.2) x.1) cs
theorem okL_set {ρ : Env} {N : Nat → Prop} {cs : List SV} (h : SV.okL ρ N cs) {v : SV} (hv : v.ok ρ N) (i : Nat) : SV.okL ρ N (cs.set i v) :=
  (okL_all _ _ _).2 fun x hx => (List.mem_or_eq_of_mem_set hx).elim ((okL_all _ _ _).1 h x) (fun e => e ▸ hv)
theorem foldl_set_ok {ρ : Env} {N : Nat → Prop} (off : Nat) : ∀ (l : List (SV × Nat)) (cs : List SV), (∀ x ∈ l, x.1.ok ρ N) → SV.okL ρ N cs → SV.okL ρ N (l.foldl (fun cs x => cs.set (off + x.2) x.1) cs) := by
  intro l
  induction l with
  | nil => exact fun cs _ h => h
  | cons a l ih => exact fun cs hl h => ih _ (fun x hx => hl x (.tail _ hx)) (okL_set h (hl a (.head _)) _)
theorem sSet_ok {ρ : Env} {N : Nat → Prop} {cs vs : List SV} (off : Nat) (h : SV.okL ρ N cs) (hv : SV.okL ρ N vs) : SV.okL ρ N (sSet cs off vs) :=
  foldl_set_ok off _ _ (fun x hx => (okL_all _ _ _).1 hv _ (by have := List.mem_zipIdx hx; obtain ⟨_, _, e⟩ := this; rw [e]; exact List.getElem_mem _)) h
theorem foldl_set_len (off : Nat) : ∀ (l : List (SV × Nat)) (cs : List SV), (l.foldl (fun cs x => cs.set (off + x.2) x.1) cs).length = cs.length := by
  intro l
  induction l with
  | nil => exact fun cs => rfl
  | cons a l ih => exact fun cs => (ih _).trans (by simp)
theorem sSet_len (cs : List SV) (off : Nat) (vs : List SV) : (sSet cs off vs).length = cs.length := foldl_set_len off _ _
theorem foldl_set_den (ρ : Env) (b : Bd) (off : Nat) : ∀ (l : List (SV × Nat)) (cs : List SV), (l.map fun x => (x.1.den ρ b, x.2)).foldl (fun (cs : Array Value) x => cs.setIfInBounds (off + x.2) x.1) (SV.denL ρ b cs).toArray = (SV.denL ρ b (l.foldl (fun cs x => cs.set (off + x.2) x.1) cs)).toArray := by
  intro l
  induction l with
  | nil => exact fun cs => rfl
  | cons a l ih =>
    intro cs
    simp only [List.map_cons, List.foldl_cons]
    rw [← ih]
    congr 1
    rw [denL_map, denL_map, List.map_set]
    simp
theorem zipIdx_den (ρ : Env) (b : Bd) (vs : List SV) : (SV.denL ρ b vs).zipIdx = vs.zipIdx.map fun x => (x.1.den ρ b, x.2) := by
  rw [denL_map, List.zipIdx_map]; rfl

def oneOrAgg : SV → Bool
  | .agg _ => true
  | v => v.isOne
theorem oneOrAgg_ok {v : SV} (h : oneOrAgg v = true) : v.isOne = true ∨ ∃ l, v = .agg l := by
  cases v <;> simp [oneOrAgg] at h <;> first | exact .inl h | exact .inr ⟨_, rfl⟩
def sFill (place : Nat → Option (Nat × Nat)) (cells : List SV) : List (Nat × SV) → Option (List SV)
  | [] => some cells
  | (i, v) :: rest =>
    match place i with
    | none => none
    | some (off, size) => if oneOrAgg v = true ∧ v.cells.length = size ∧ off + v.cells.length ≤ cells.length then sFill place (sSet cells off v.cells) rest else none
theorem sFill_ok {place : Nat → Option (Nat × Nat)} {ρ : Env} {b : Bd} {N : Nat → Prop} : ∀ (parts : List (Nat × SV)) (cells r : List SV), sFill place cells parts = some r → SV.okL ρ N cells → (∀ x ∈ parts, x.2.ok ρ N) →
    Instr.fill place (SV.denL ρ b cells).toArray (parts.map fun x => (x.1, x.2.den ρ b)) = some (SV.denL ρ b r).toArray ∧ SV.okL ρ N r := by
  intro parts
  induction parts with
  | nil => intro cells r h hk _; cases h; exact ⟨rfl, hk⟩
  | cons a rest ih =>
    obtain ⟨i, v⟩ := a
    intro cells r h hk hp
    simp only [sFill] at h
    simp only [List.map_cons, Instr.fill]
    cases hpl : place i with
    | none => rw [hpl] at h; cases h
    | some os =>
      obtain ⟨off, size⟩ := os
      rw [hpl] at h
      dsimp only at h ⊢
      split at h
      · rename_i hc
        obtain ⟨h1, h2, h3⟩ := hc
        have hv : v.ok ρ N := hp _ (.head _)
        have hcell := SV.cells_den ρ b (oneOrAgg_ok h1)
        rw [hcell]
        have hlen : (SV.denL ρ b v.cells).toArray.size = v.cells.length := by simp [denL_length]
        have hlen2 : (SV.denL ρ b cells).toArray.size = cells.length := by simp [denL_length]
        have hcn : ¬ ((decide (v.cells.length ≠ size) || decide (off + v.cells.length > cells.length)) = true) := by simp; omega
        rw [hlen, hlen2, if_neg hcn]
        have := ih _ r h (sSet_ok off hk (SV.cells_ok hv)) (fun x hx => hp x (.tail _ hx))
        rw [← this.1]
        refine ⟨?_, this.2⟩
        congr 1
        rw [Array.zipIdx_toArray, zipIdx_den, List.foldl_toArray]
        exact foldl_set_den ρ b off v.cells.zipIdx cells
      · cases h

/-- Parts by place, their values. -/
def evParts (A : List E) (S : St) : List (Nat × Operand) → Option (List (Nat × SV))
  | [] => some []
  | (i, x) :: l => match ev A S x, evParts A S l with
    | some v, some r => some ((i, v) :: r)
    | _, _ => none
theorem evParts_ok {ρ : Env} {b : Bd} {base : Nat → Prop} {w0 w : World} {S : St} {a : Act} {A : List E} (h : Rel ρ b base w0 w S a.tmps) (hA : allB ρ A) : ∀ {l : List (Nat × Operand)} {r : List (Nat × SV)}, evParts A S l = some r →
    (l.map fun x => (x.1, a.eval x.2)) = (r.map fun x => (x.1, x.2.den ρ b)) ∧ ∀ x ∈ r, x.2.ok ρ (· < S.next) := by
  intro l
  induction l with
  | nil => intro r h; cases h; exact ⟨rfl, fun _ h => by cases h⟩
  | cons p l ih =>
    obtain ⟨i, x⟩ := p
    intro r hr
    simp only [evParts] at hr
    split at hr
    · rename_i v r' h1 h2
      cases hr
      have e1 := ev_ok h hA h1
      have e2 := ih h2
      refine ⟨by simp only [List.map_cons, e1.1, e2.1], fun x hx => ?_⟩
      cases hx with
      | head => exact e1.2
      | tail _ hx => exact e2.2 x hx
    · cases hr
def evs (A : List E) (S : St) : List Operand → Option (List SV)
  | [] => some []
  | x :: l => match ev A S x, evs A S l with
    | some v, some r => some (v :: r)
    | _, _ => none
theorem evs_ok {ρ : Env} {b : Bd} {base : Nat → Prop} {w0 w : World} {S : St} {a : Act} {A : List E} (h : Rel ρ b base w0 w S a.tmps) (hA : allB ρ A) : ∀ {l : List Operand} {r : List SV}, evs A S l = some r →
    (l.map a.eval) = SV.denL ρ b r ∧ SV.okL ρ (· < S.next) r := by
  intro l
  induction l with
  | nil => intro r h; cases h; exact ⟨rfl, trivial⟩
  | cons x l ih =>
    intro r hr
    simp only [evs] at hr
    split at hr
    · rename_i v r' h1 h2
      cases hr
      have e1 := ev_ok h hA h1
      have e2 := ih h2
      exact ⟨by simp only [List.map_cons, e1.1, e2.1, SV.denL], e1.2, e2.2⟩
    · cases hr

def zeroT (P : Program) (t : TypeId) : Option Value := (P.info? t).bind (·.zero)
theorem run_zero {P : Program} {t : TypeId} {z : Value} (h : zeroT P t = some z) (w : World) : (zeroValue t).run P w = .ok z w := by
  unfold zeroT at h
  cases hi : P.info? t with
  | none => rw [hi] at h; cases h
  | some i =>
    rw [hi] at h
    have h' : i.zero = some z := h
    simp [zeroValue, typeInfo, hi, h']
def zeroL (z : Value) : List SV := z.cells.toList.map SV.ofValue
theorem zeroL_den (ρ : Env) (b : Bd) (z : Value) : (SV.denL ρ b (zeroL z)).toArray = z.cells := by
  rw [zeroL, denL_map, List.map_map]
  have : (SV.den ρ b ∘ SV.ofValue) = id := funext fun v => SV.ofValue_den ρ b v
  rw [this]; simp
theorem zeroL_ok (ρ : Env) (N : Nat → Prop) (z : Value) : SV.okL ρ N (zeroL z) :=
  (okL_all _ _ _).2 fun v hv => by
    obtain ⟨x, _, rfl⟩ := List.mem_map.1 hv
    exact SV.ofValue_ok ρ N x
/-- Offsets and sizes of a struct's fields. -/
def placesT (P : Program) : List Field → Option (List (Nat × Nat))
  | [] => some []
  | f :: l => match sizeT P f.type, placesT P l with
    | some n, some r => some ((f.offset, n) :: r)
    | _, _ => none
theorem run_places {P : Program} (w : World) : ∀ {l : List Field} {r : List (Nat × Nat)}, placesT P l = some r → (l.mapM fun f => do pure (f.offset, ← sizeOf f.type) : Sem (List (Nat × Nat))).run P w = .ok r w := by
  intro l
  induction l with
  | nil => intro r h; cases h; rfl
  | cons f l ih =>
    intro r h
    simp only [placesT] at h
    split at h
    · rename_i n r' h1 h2
      cases h
      simp only [List.mapM_cons, Sem.run_bind, run_sizeOf h1, Result.andThen, ih h2, Sem.run_pure]
    · cases h
def sBuild (P : Program) (t : TypeId) (parts : List (Nat × SV)) : Option SV :=
  match zeroT P t, P.underlying t with
  | some z, some (.struct fields) =>
    match placesT P fields.toList with
    | some pl => (sFill (pl[·]?) (zeroL z) parts).map .agg
    | none => none
  | some z, some (.array _ e) =>
    match sizeT P e with
    | some n => (sFill (fun i => some (i * n, n)) (zeroL z) parts).map .agg
    | none => none
  | _, _ => none
theorem sBuild_ok {P : Program} {t : TypeId} {parts : List (Nat × SV)} {v : SV} (h : sBuild P t parts = some v) {ρ : Env} {b : Bd} {N : Nat → Prop} (hp : ∀ x ∈ parts, x.2.ok ρ N) (w : World) (ps : Array (Nat × Value)) (hps : ps.toList = parts.map fun x => (x.1, x.2.den ρ b)) :
    (Instr.build t ps).run P w = .ok (v.den ρ b) w ∧ v.ok ρ N := by
  unfold sBuild at h
  split at h
  · rename_i z fields hz hu
    split at h
    · rename_i pl hpl
      rw [Option.map_eq_some_iff] at h
      obtain ⟨r, hr, rfl⟩ := h
      have hf := sFill_ok (b := b) parts _ _ hr (zeroL_ok ρ N z) hp
      rw [zeroL_den] at hf
      refine ⟨?_, hf.2⟩
      have hpl2 : (fields.mapM fun f => do pure (f.offset, ← sizeOf f.type) : Sem (Array (Nat × Nat))).run P w = .ok pl.toArray w := by
        rw [Array.mapM_eq_mapM_toList]
        simp only [Sem.run_map, run_places w hpl, Result.andThen]
      simp only [Instr.build, Sem.run_bind, run_zero hz, Result.andThen, run_underlying hu, hpl2]
      have e : (fun (x : Nat) => pl.toArray[x]?) = (fun x => pl[x]?) := by funext x; simp
      simp only [e, hps, hf.1]
      rfl
    · cases h
  · rename_i z n' e hz hu
    split at h
    · rename_i n hn
      rw [Option.map_eq_some_iff] at h
      obtain ⟨r, hr, rfl⟩ := h
      have hf := sFill_ok (b := b) parts _ _ hr (zeroL_ok ρ N z) hp
      rw [zeroL_den] at hf
      refine ⟨?_, hf.2⟩
      simp only [Instr.build, Sem.run_bind, run_zero hz, Result.andThen, run_underlying hu, run_sizeOf hn, hps, hf.1]
      rfl
    · cases h
  · cases h
end Go.Proofs.Ytdfpenjhpemokaa.Sx
