/-
  A verified symbolic executor, part 13: states that meet again; results of a function.
-/
import Derived.Test.YtdfpenjhpemokaaSxL
import Derived.LoopN
set_option linter.unusedVariables false
set_option linter.unusedSimpArgs false
namespace Go.Proofs.Ytdfpenjhpemokaa.Sx
open Go.RowKit (Below)

theorem find_mem {α : Type} {l : List (Nat × α)} {n : Nat} {x : α} (h : find l n = some x) : (n, x) ∈ l := by
  induction l with
  | nil => cases h
  | cons a l ih =>
    obtain ⟨m, y⟩ := a
    simp only [find] at h
    split at h
    · rename_i he; cases h; subst he; exact .head _
    · exact .tail _ (ih h)
/-- May a value that differs on two ways be forgotten? -/
def soft : SV → SV → Bool
  | .ptr _ _, .ptr _ _ => true
  | .fn _ _, .fn _ _ => true
  | .tup _, _ => true
  | _, .tup _ => true
  | .con _, _ => true
  | _, .con _ => true
  | _, _ => false
/-- Are they two numbers that are known, and differ? -/
def litDiff : SV → SV → Bool
  | .int _ a, .int _ c => decide (a.lo = a.hi ∧ c.lo = c.hi ∧ ¬ a.lo = c.lo)
  | _, _ => false
def mrgT (et : TypeId) (k : Bool) (d : E) (L M : List (Nat × Ent)) : List (Nat × Ent) → Option (List (Nat × Ent))
  | [] => some []
  | (i, _) :: r =>
    match mrgT et k d L M r, find L i, find M i with
    | some r', some x, some y =>
      if x.g.isEmpty && y.g.isEmpty then
        (if k && litDiff x.sv y.sv then none else
        match mrg2 et d x.sv y.sv with
        | some v => some ((i, ⟨[], v⟩) :: r')
        | none => if soft x.sv y.sv then some r' else none)
      else some r'
    | some r', _, _ => some r'
    | none, _, _ => none
theorem mrgT_mem {et : TypeId} {k : Bool} {d : E} {L M : List (Nat × Ent)} : ∀ {l r : List (Nat × Ent)}, mrgT et k d L M l = some r → ∀ i e, (i, e) ∈ r → ∃ x y v, find L i = some x ∧ find M i = some y ∧ x.g = [] ∧ y.g = [] ∧ mrg2 et d x.sv y.sv = some v ∧ e = ⟨[], v⟩ := by
  intro l
  induction l with
  | nil => intro r h i e hm; cases h; cases hm
  | cons a l ih =>
    obtain ⟨j, z⟩ := a
    intro r h i e hm
    simp only [mrgT] at h
    split at h
    · rename_i r' x y h1 h2 h3
      split at h
      · rename_i hg
        simp at hg
        split at h
        · cases h
        · split at h
          · rename_i v hv
            cases h
            cases hm with
            | head => exact ⟨x, y, v, h2, h3, hg.1, hg.2, hv, rfl⟩
            | tail _ hm => exact ih h1 i e hm
          · split at h
            · cases h; exact ih h1 i e hm
            · cases h
      · cases h; exact ih h1 i e hm
    · rename_i r' _ _ h1
      cases h; exact ih ‹_› i e hm
    · cases h
def mrgH (et : TypeId) (d : E) (n0 : Nat) (L M : List (Nat × HEnt)) : List (Nat × HEnt) → Option (List (Nat × HEnt))
  | [] => some []
  | (i, _) :: r =>
    match mrgH et d n0 L M r, find L i, find M i with
    | some r', some x, some y =>
      if x.g.isEmpty && y.g.isEmpty && decide (x.blk.kind = y.blk.kind) && decide (x.blk.elem = y.blk.elem) then
        match zipO (mrg2 et d) x.blk.cells y.blk.cells with
        | some v => some ((i, ⟨[], ⟨v, x.blk.elem, x.blk.kind⟩⟩) :: r')
        | none => if i < n0 then none else some r'
      else some r'
    | some r', _, _ => some r'
    | none, _, _ => none
theorem mrgH_mem {et : TypeId} {d : E} {n0 : Nat} {L M : List (Nat × HEnt)} : ∀ {l r : List (Nat × HEnt)}, mrgH et d n0 L M l = some r → ∀ i e, (i, e) ∈ r → ∃ x y v, find L i = some x ∧ find M i = some y ∧ x.g = [] ∧ y.g = [] ∧ x.blk.kind = y.blk.kind ∧ x.blk.elem = y.blk.elem ∧ zipO (mrg2 et d) x.blk.cells y.blk.cells = some v ∧ e = ⟨[], ⟨v, x.blk.elem, x.blk.kind⟩⟩ := by
  intro l
  induction l with
  | nil => intro r h i e hm; cases h; cases hm
  | cons a l ih =>
    obtain ⟨j, z⟩ := a
    intro r h i e hm
    simp only [mrgH] at h
    split at h
    · rename_i r' x y h1 h2 h3
      split at h
      · rename_i hg
        simp at hg
        split at h
        · rename_i v hv
          cases h
          cases hm with
          | head => exact ⟨x, y, v, h2, h3, hg.1.1.1, hg.1.1.2, hg.1.2, hg.2, hv, rfl⟩
          | tail _ hm => exact ih h1 i e hm
        · split at h
          · cases h
          · cases h; exact ih h1 i e hm
      · cases h; exact ih h1 i e hm
    · cases h; exact ih ‹_› i e hm
    · cases h
theorem mrgH_t {et : TypeId} {ρ : Env} (he : ρ.et = et) {d : E} (hd : d.b ρ = true) {n0 : Nat} {L M r : List (Nat × HEnt)} {l : List (Nat × HEnt)} (h : mrgH et d n0 L M l = some r) {b : Bd} {base : Nat → Prop} {w : World} {N K : Nat → Prop} (hN : ∀ n, N n → K n) (hr : HRel ρ b base w L N) : HRel ρ b base w r K := by
  have hz := fun cs ds v (hz : zipO (mrg2 et d) cs ds = some v) (hk : SV.okL ρ N cs) => zipO_l (ρ := ρ) (b := b) (N := N) (fun x y v h hx => mrg2_t he hd h (b := b) hx) hz hk
  constructor
  · intro n e hf hg
    obtain ⟨x, y, v, h1, h2, h3, h4, h5, h6, h7, rfl⟩ := mrgH_mem h n e (find_mem hf)
    obtain ⟨a1, a2, a3⟩ := hr.mem n x h1 (by rw [h3]; exact allB_nil ρ)
    have := hz _ _ _ h7 a3
    exact ⟨hN n a1, a2.cells this.1, SV.okL_mono hN _ this.2⟩
  · intro n m e k hf hk hg hgk ho hok heq
    obtain ⟨x, y, v, h1, h2, h3, h4, h5, h6, h7, rfl⟩ := mrgH_mem h n e (find_mem hf)
    obtain ⟨x', y', v', h1', h2', h3', h4', h5', h6', h7', rfl⟩ := mrgH_mem h m k (find_mem hk)
    exact hr.inj n m x x' h1 h1' (by rw [h3]; exact allB_nil ρ) (by rw [h3']; exact allB_nil ρ) ho hok heq
theorem mrgH_f {et : TypeId} {ρ : Env} (he : ρ.et = et) {d : E} (hd : d.b ρ = false) {n0 : Nat} {L M r : List (Nat × HEnt)} {l : List (Nat × HEnt)} (h : mrgH et d n0 L M l = some r) {b : Bd} {base : Nat → Prop} {w : World} {N K : Nat → Prop} (hN : ∀ n, N n → K n) (hr : HRel ρ b base w M N) : HRel ρ b base w r K := by
  have hz := fun cs ds v (hz : zipO (mrg2 et d) cs ds = some v) (hk : SV.okL ρ N ds) => zipO_r (ρ := ρ) (b := b) (N := N) (fun x y v h hx => mrg2_f he hd h (b := b) hx) hz hk
  constructor
  · intro n e hf hg
    obtain ⟨x, y, v, h1, h2, h3, h4, h5, h6, h7, rfl⟩ := mrgH_mem h n e (find_mem hf)
    obtain ⟨a1, a2, a3⟩ := hr.mem n y h2 (by rw [h4]; exact allB_nil ρ)
    have := hz _ _ _ h7 a3
    rw [h5, h6]
    exact ⟨hN n a1, a2.cells this.1, SV.okL_mono hN _ this.2⟩
  · intro n m e k hf hk hg hgk ho hok heq
    obtain ⟨x, y, v, h1, h2, h3, h4, h5, h6, h7, rfl⟩ := mrgH_mem h n e (find_mem hf)
    obtain ⟨x', y', v', h1', h2', h3', h4', h5', h6', h7', rfl⟩ := mrgH_mem h m k (find_mem hk)
    exact hr.inj n m y y' h2 h2' (by rw [h4]; exact allB_nil ρ) (by rw [h4']; exact allB_nil ρ) (by simpa [Blk.own, h5] using ho) (by simpa [Blk.own, h5'] using hok) heq
def mrgS (et : TypeId) (k : Bool) (d : E) (n0 : Nat) (S U : St) : Option St :=
  if S.nt = U.nt then
    match mrgT et k d S.tmps U.tmps S.tmps, mrgH et d n0 S.heap U.heap S.heap with
    | some t, some h => some ⟨t, h, max S.next U.next, S.nt⟩
    | _, _ => none
  else none
theorem mrgS_t {et : TypeId} {ρ : Env} (he : ρ.et = et) {k : Bool} {d : E} (hd : d.b ρ = true) {n0 : Nat} {S U V : St} (h : mrgS et k d n0 S U = some V) {b : Bd} {base : Nat → Prop} {w0 w : World} {tm : Array Value} (hr : Rel ρ b base w0 w S tm) : Rel ρ b base w0 w V tm ∧ S.next ≤ V.next := by
  unfold mrgS at h
  split at h
  · split at h
    · rename_i t hp h1 h2
      cases h
      refine ⟨⟨mrgH_t he hd h2 (fun n hn => Nat.lt_of_lt_of_le hn (Nat.le_max_left _ _)) hr.heap, fun i e hf => ?_, hr.below, hr.base, hr.nt, hr.kept⟩, Nat.le_max_left _ _⟩
      obtain ⟨x, y, v, a1, a2, a3, a4, a5, rfl⟩ := mrgT_mem h1 i e (find_mem hf)
      obtain ⟨b1, b2⟩ := (hr.tmps i x a1).1 (by rw [a3]; exact allB_nil ρ)
      have := mrg2_t he hd a5 (b := b) b2
      exact ⟨fun _ => ⟨by rw [this.1]; exact b1, SV.ok_mono (fun n hn => Nat.lt_of_lt_of_le hn (Nat.le_max_left _ _)) _ this.2⟩, fun hn => absurd (allB_nil ρ) hn⟩
    · cases h
  · cases h
theorem mrgS_f {et : TypeId} {ρ : Env} (he : ρ.et = et) {k : Bool} {d : E} (hd : d.b ρ = false) {n0 : Nat} {S U V : St} (h : mrgS et k d n0 S U = some V) {b : Bd} {base : Nat → Prop} {w0 w : World} {tm : Array Value} (hr : Rel ρ b base w0 w U tm) : Rel ρ b base w0 w V tm ∧ U.next ≤ V.next := by
  unfold mrgS at h
  split at h
  · rename_i hnt
    split at h
    · rename_i t hp h1 h2
      cases h
      refine ⟨⟨mrgH_f he hd h2 (fun n hn => Nat.lt_of_lt_of_le hn (Nat.le_max_right _ _)) hr.heap, fun i e hf => ?_, hr.below, hr.base, hr.nt.trans hnt.symm, hr.kept⟩, Nat.le_max_right _ _⟩
      obtain ⟨x, y, v, a1, a2, a3, a4, a5, rfl⟩ := mrgT_mem h1 i e (find_mem hf)
      obtain ⟨b1, b2⟩ := (hr.tmps i y a2).1 (by rw [a4]; exact allB_nil ρ)
      have := mrg2_f he hd a5 (b := b) b2
      exact ⟨fun _ => ⟨by rw [this.1]; exact b1, SV.ok_mono (fun n hn => Nat.lt_of_lt_of_le hn (Nat.le_max_right _ _)) _ this.2⟩, fun hn => absurd (allB_nil ρ) hn⟩
    · cases h
  · cases h

inductive XK where
  | normal | exit (id : Nat) | ret
  deriving DecidableEq, Repr, Inhabited
structure Lf where
  x : XK
  st : St
  deriving Inhabited
/-- Ways that end alike meet, where their states can. -/
def T.norm (et : TypeId) (k : Bool) (n0 : Nat) : T Lf → T Lf
  | .leaf l => .leaf l
  | .node c t u =>
    match T.norm et k n0 t, T.norm et k n0 u with
    | .leaf l, .leaf m => if l.x = m.x then (match mrgS et k c n0 l.st m.st with
        | some S => .leaf ⟨l.x, S⟩
        | none => .node c (.leaf l) (.leaf m)) else .node c (.leaf l) (.leaf m)
    | t', u' => .node c t' u'
theorem T.norm_ok {et : TypeId} {ρ : Env} (he : ρ.et = et) {k : Bool} {n0 : Nat} {b : Bd} {base : Nat → Prop} {w0 w : World} {tm : Array Value} : ∀ (t : T Lf), Rel ρ b base w0 w (t.at ρ).st tm → ((T.norm et k n0 t).at ρ).x = (t.at ρ).x ∧ Rel ρ b base w0 w ((T.norm et k n0 t).at ρ).st tm ∧ (t.at ρ).st.next ≤ ((T.norm et k n0 t).at ρ).st.next := by
  intro t
  induction t with
  | leaf l => exact fun h => ⟨rfl, h, Nat.le_refl _⟩
  | node c t u iht ihu =>
    intro h
    have key : ((if c.b ρ = true then (T.norm et k n0 t).at ρ else (T.norm et k n0 u).at ρ)).x = ((T.node c t u).at ρ).x ∧ Rel ρ b base w0 w (if c.b ρ = true then (T.norm et k n0 t).at ρ else (T.norm et k n0 u).at ρ).st tm ∧ ((T.node c t u).at ρ).st.next ≤ (if c.b ρ = true then (T.norm et k n0 t).at ρ else (T.norm et k n0 u).at ρ).st.next := by
      simp only [T.at] at h ⊢
      by_cases hc : c.b ρ = true
      · simp only [hc, if_true] at h ⊢; exact iht h
      · simp only [hc] at h ⊢; exact ihu h
    simp only [T.norm]
    split
    · rename_i l m hl hm
      rw [hl, hm] at key
      simp only [T.at] at key
      split
      · rename_i hx
        split
        · rename_i S hS
          simp only [T.at]
          by_cases hc : c.b ρ = true
          · simp only [hc, if_true] at key ⊢
            have := mrgS_t he hc hS key.2.1
            exact ⟨key.1, this.1, Nat.le_trans key.2.2 this.2⟩
          · have hc' : c.b ρ = false := by simpa using hc
            simp only [hc', Bool.false_eq_true, if_false] at key ⊢
            have := mrgS_f he hc' hS key.2.1
            exact ⟨hx ▸ key.1, this.1, Nat.le_trans key.2.2 this.2⟩
        · exact key
      · exact key
    · rename_i t' u' _
      exact key

/-! Results of a function. -/
def sResults (P : Program) (S : St) : List ResultVar → Option (List SV)
  | [] => some []
  | .tmp t :: l => match ev [] S (.tmp t), sResults P S l with
    | some v, some r => some (v :: r)
    | _, _ => none
  | .cell t ty :: l => match ev [] S (.tmp t), sResults P S l with
    | some (.ptr n off), some r => match blkOf [] S n with
      | some B => match sPart P ty B.cells off with
        | some v => some (v :: r)
        | none => none
      | none => none
    | _, _ => none
def resV (tm : Array Value) : ResultVar → Sem Value
  | .tmp t => pure (tm.getD t undef)
  | .cell x t => do loadVar t (← asAddr (tm.getD x undef))
theorem results_eq (fn : Func) (tm : Array Value) : results fn tm = (do let vs ← fn.results.mapM (resV tm); pure (if h : vs.size = 1 then vs[0] else .tuple vs)) := by
  rfl
theorem sResults_ok {P : Program} {ρ : Env} {b : Bd} {base : Nat → Prop} {w0 w : World} {S : St} {a : Act} (h : Rel ρ b base w0 w S a.tmps) : ∀ {l : List ResultVar} {r : List SV}, sResults P S l = some r →
    (l.mapM (resV a.tmps)).run P w = .ok (SV.denL ρ b r) w ∧ SV.okL ρ (· < S.next) r := by
  intro l
  induction l with
  | nil => intro r hr; cases hr; exact ⟨rfl, trivial⟩
  | cons x l ih =>
    intro r hr
    cases x with
    | tmp t =>
      simp only [sResults] at hr
      split at hr
      · rename_i v r' h1 h2
        cases hr
        have e1 := ev_ok h (allB_nil ρ) h1
        have e2 := ih h2
        have e3 : a.tmps.getD t undef = v.den ρ b := e1.1
        exact ⟨by simp only [List.mapM_cons, resV, Sem.run_bind, Sem.run_pure, Result.andThen, e2.1, e3, SV.denL], e1.2, e2.2⟩
      · cases hr
    | cell t ty =>
      simp only [sResults] at hr
      split at hr
      · rename_i n off r' h1 h2
        split at hr
        · rename_i B hB
          split at hr
          · rename_i v hv
            cases hr
            have e1 := ev_ok h (allB_nil ρ) h1
            have e2 := ih h2
            have e3 : a.tmps.getD t undef = (SV.ptr n off).den ρ b := e1.1
            have e4 := blkOf_ok h (allB_nil ρ) hB
            have e5 := sLoad_ok hv (b := b) e4.2.2 (w := w) (a := ⟨b.β n, b.o n + off, none⟩) (fun i u hu => by
              rw [add_lit]
              exact Blk.ok.cell e4.2.1 hu)
            have e6 : (resV a.tmps (.cell t ty)).run P w = .ok (v.den ρ b) w := by
              show (do loadVar ty (← asAddr (a.tmps.getD t undef)) : Sem Value).run P w = _
              rw [e3]; simp only [SV.den, asAddr, Sem.run_bind, Sem.run_pure, Result.andThen, e5.1]
            refine ⟨?_, e5.2, e2.2⟩
            rw [List.mapM_cons, Sem.run_bind, e6]
            simp only [Result.andThen, Sem.run_bind, e2.1, Sem.run_pure, SV.denL]
          · cases hr
        · cases hr
      · cases hr
def oneOrTup : List SV → SV
  | [v] => v
  | l => .tup l
theorem run_results {P : Program} {ρ : Env} {b : Bd} {base : Nat → Prop} {w0 w : World} {S : St} {a : Act} (h : Rel ρ b base w0 w S a.tmps) {fn : Func} {r : List SV} (hr : sResults P S fn.results.toList = some r) :
    (results fn a.tmps).run P w = .ok ((oneOrTup r).den ρ b) w ∧ (oneOrTup r).ok ρ (· < S.next) := by
  have e := sResults_ok h hr
  have hm : (fn.results.mapM (resV a.tmps)).run P w = .ok (SV.denL ρ b r).toArray w := by
    rw [Array.mapM_eq_mapM_toList]
    simp only [Sem.run_map, Result.andThen]
    rw [e.1]
  refine ⟨?_, ?_⟩
  · rw [results_eq]
    simp only [Sem.run_bind, hm, Result.andThen, Sem.run_pure]
    congr 1
    match r with
    | [] => rfl
    | [v] => rfl
    | v :: u :: l => simp [oneOrTup, SV.den, SV.denL]
  · match r, e.2 with
    | [], _ => exact trivial
    | [v], h => exact h.1
    | v :: u :: l, h => exact h
end Go.Proofs.Ytdfpenjhpemokaa.Sx
