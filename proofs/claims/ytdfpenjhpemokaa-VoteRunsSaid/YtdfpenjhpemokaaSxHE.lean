/-
  A verified symbolic executor, part 8b: equality of structs, arrays and errors; what an interface holds.
-/
import Derived.Test.YtdfpenjhpemokaaSxH
import Derived.ChangeKeysEq
set_option linter.unusedVariables false
set_option linter.unusedSimpArgs false
namespace Go.Proofs.Ytdfpenjhpemokaa.Sx
open Go.RowKit (Below)

def eqFieldsS (P : Program) (eq : TypeId → SV → SV → Option E) (l m : List SV) : List Field → Option E
  | [] => some (.bc true)
  | f :: fs =>
    if f.name ≠ "_" then
      match sPart P f.type l f.offset, sPart P f.type m f.offset with
      | some a, some c => match eq f.type a c, eqFieldsS P eq l m fs with
        | some x, some y => some (mkAnd x y)
        | _, _ => none
      | _, _ => none
    else eqFieldsS P eq l m fs
def eqItemsS (P : Program) (eq : TypeId → SV → SV → Option E) (e : TypeId) (s : Nat) (l m : List SV) : List Nat → Option E
  | [] => some (.bc true)
  | i :: is =>
    match sPart P e l (i * s), sPart P e m (i * s) with
    | some a, some c => match eq e a c, eqItemsS P eq e s l m is with
      | some x, some y => some (mkAnd x y)
      | _, _ => none
    | _, _ => none
/-- Are two values the same? -/
def sEqIn (P : Program) : Nat → TypeId → SV → SV → Option E
  | 0, _, _, _ => none
  | k + 1, t, x, y =>
    match P.underlying t, x, y with
    | some .bool, .bool a, .bool c => some (mkBeq a c)
    | some (.int _), .int i a, .int j c => if i = j then some (req a c) else none
    | some (.struct fs), .agg l, .agg m => if P.stoodInHeld t then none else eqFieldsS P (sEqIn P k) l m fs.toList
    | some (.array n e), .agg l, .agg m => match P.info? e with
      | some _ => eqItemsS P (sEqIn P k) e (P.cellsOf e) l m (List.range n)
      | none => none
    | _, _, _ => none
theorem sEqIn_ok {P : Program} {ρ : Env} {b : Bd} {N : Nat → Prop} (w : World) : ∀ (k : Nat) (t : TypeId) (x y : SV) (e : E), sEqIn P k t x y = some e → x.ok ρ N → y.ok ρ N → ∀ d, k ≤ d → (Op.equalIn d t (x.den ρ b) (y.den ρ b)).run P w = .ok (e.b ρ) w := by
  intro k
  induction k with
  | zero => intro t x y e h; cases h
  | succ k ih =>
    intro t x y e h hx hy d hd
    obtain ⟨d, rfl⟩ : ∃ d', d = d' + 1 := ⟨d - 1, by omega⟩
    simp only [sEqIn] at h
    split at h
    · rename_i a c hu
      cases h
      simp only [SV.den, mkBeq_b]
      exact eqIn_bool d hu _ _ w
    · rename_i i' i a j c hu
      split at h
      · rename_i hij
        subst hij
        cases h
        simp only [SV.den, req_b hx hy, ← beq_dec]
        simp [Op.equalIn, run_underlying hu]
      · cases h
    · rename_i fs l m hu
      split at h
      · cases h
      · rename_i hp
        have hf : P.fieldsOf t = fs := by unfold Program.fieldsOf; rw [hu]
        simp only [SV.den]
        rw [run_equalIn_struct w d t _ _ (by rw [hf]; exact hu) (by simpa using hp), hf]
        revert h
        generalize fs.toList = gs
        intro h
        induction gs generalizing e with
        | nil => cases h; simp [Op.eqFields, E.b]
        | cons f gs ihg =>
          simp only [eqFieldsS] at h
          simp only [Op.eqFields]
          split at h
          · rename_i hn
            rw [if_pos hn]
            split at h
            · rename_i a c h1 h2
              split at h
              · rename_i u v h3 h4
                cases h
                have e1 := sPart_ok h1 (b := b) hx w
                have e2 := sPart_ok h2 (b := b) hy w
                have e3 := ih _ _ _ _ h3 e1.2 e2.2 d (by omega)
                simp only [Sem.run_bind, e1.1, e2.1, e3, Result.andThen_ok, mkAnd_b]
                cases hub : u.b ρ with
                | false => simp
                | true => simp [ihg v h4]
              · cases h
            · cases h
          · rename_i hn
            rw [if_neg hn]
            exact ihg e h
    · rename_i n el l m hu
      split at h
      · rename_i i hi
        simp only [SV.den]
        rw [run_equalIn_array w d _ _ hu hi]
        revert h
        generalize List.range n = is
        intro h
        induction is generalizing e with
        | nil => cases h; simp [Op.eqItems, E.b]
        | cons j is ihg =>
          simp only [eqItemsS] at h
          simp only [Op.eqItems]
          split at h
          · rename_i a c h1 h2
            split at h
            · rename_i u v h3 h4
              cases h
              have e1 := sPart_ok h1 (b := b) hx w
              have e2 := sPart_ok h2 (b := b) hy w
              have e3 := ih _ _ _ _ h3 e1.2 e2.2 d (by omega)
              simp only [Sem.run_bind, e1.1, e2.1, e3, Result.andThen_ok, mkAnd_b]
              cases hub : u.b ρ with
              | false => simp
              | true => simp [ihg v h4]
            · cases h
          · cases h
      · cases h
    · cases h

/-- Operations on values that are told of a type. -/
def opX (P : Program) (et : TypeId) (A : List E) (S : St) (o : Oper) : Option SV :=
  match o.op with
  | .binOp op t x y _ =>
    match ev A S x, ev A S y with
    | some (.agg l), some (.agg m) =>
      if P.eqGuardType P.depth t then none else
      match op, sEqIn P 8 t (.agg l) (.agg m) with
      | .eql, some e => some (.bool e)
      | .neq, some e => some (.bool (mkNot e))
      | _, _ => none
    | _, _ => none
  | .typeAssert x _ t two =>
    match P.underlying t, ev A S x with
    | some (.interface _), _ => none
    | some _, some (.ifc u v) => if u = t then some (if two then .tup [v, .bool (.bc true)] else v) else none
    | _, _ => none
  | _ => none
theorem opX_ok {P : Program} {et : TypeId} {ρ : Env} {b : Bd} {base : Nat → Prop} {w0 w : World} {S : St} {a : Act} {A : List E} (h : Rel ρ b base w0 w S a.tmps) (hA : allB ρ A) {o : Oper} {v : SV} (ho : opX P et A S o = some v) :
    (execOp a.eval o).run P w = .ok (.value (v.den ρ b)) w ∧ v.ok ρ (· < S.next) := by
  unfold opX at ho
  split at ho
  · rename_i op t x y yt hop
    split at ho
    · rename_i l m hx hy
      split at ho
      · cases ho
      · rename_i hg
        have e1 := ev_ok h hA hx
        have e2 := ev_ok h hA hy
        have g : (eqGuard op t x y (.agg (SV.denL ρ b l).toArray) (.agg (SV.denL ρ b m).toArray)).run P w = .ok () w := run_eqGuard_agg w op t x y _ _ (by simpa using hg)
        have key : ∀ e, sEqIn P 8 t (.agg l) (.agg m) = some e → (Op.equalIn 10000 t (.agg (SV.denL ρ b l).toArray) (.agg (SV.denL ρ b m).toArray)).run P w = .ok (e.b ρ) w := fun e he => sEqIn_ok w 8 t _ _ e he e1.2 e2.2 10000 (by omega)
        split at ho
        · rename_i e he
          cases ho
          refine ⟨?_, trivial⟩
          simp only [execOp, hop, e1.1, e2.1, SV.den, Sem.run_bind, g, Result.andThen_ok, run_eql_struct, key e he, Sem.run_pure]
        · rename_i e he
          cases ho
          refine ⟨?_, trivial⟩
          simp only [execOp, hop, e1.1, e2.1, SV.den, Sem.run_bind, g, Result.andThen_ok, run_neq_struct, key e he, Sem.run_pure, mkNot_b]
        · cases ho
    · cases ho
  · rename_i x xt t two hop
    split at ho
    · cases ho
    · rename_i dd u v' hne hu hx
      split at ho
      · rename_i hut
        subst hut
        cases ho
        have e1 := ev_ok h hA hx
        have hrun : (Instr.typeAssert (.iface u (v'.den ρ b)) xt u two).run P w = .ok (if two then .tuple #[v'.den ρ b, .bool true] else v'.den ρ b) w := by
          cases dd <;> first
            | exact (hne _ rfl).elim
            | (simp [Instr.typeAssert, run_underlying hu])
        refine ⟨?_, ?_⟩
        · simp only [execOp, hop, e1.1, SV.den, Sem.run_bind, hrun, Result.andThen_ok, Sem.run_pure]
          cases two <;> rfl
        · cases two
          · exact e1.2
          · exact ⟨e1.2, trivial, trivial⟩
      · cases ho
    · cases ho
  · cases ho
/-- One operation that makes a value and leaves the world alone. -/
def opU (P : Program) (et : TypeId) (A : List E) (S : St) (o : Oper) : Option SV := match opV P et A S o with
  | some v => some v
  | none => opX P et A S o
theorem opU_ok {P : Program} {et : TypeId} {ρ : Env} (he : ρ.et = et) {b : Bd} {base : Nat → Prop} {w0 w : World} {S : St} {a : Act} {A : List E} (h : Rel ρ b base w0 w S a.tmps) (hA : allB ρ A) {o : Oper} {v : SV} (ho : opU P et A S o = some v) :
    (execOp a.eval o).run P w = .ok (.value (v.den ρ b)) w ∧ v.ok ρ (· < S.next) := by
  unfold opU at ho
  split at ho
  · rename_i u hu
    cases ho
    exact opV_ok he h hA hu
  · exact opX_ok h hA ho
end Go.Proofs.Ytdfpenjhpemokaa.Sx
