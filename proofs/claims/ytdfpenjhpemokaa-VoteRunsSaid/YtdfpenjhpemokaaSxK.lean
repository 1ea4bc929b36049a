/-
  A verified symbolic executor, part 11: one operation that works on memory, from its text; one operation.
-/
import Derived.Test.YtdfpenjhpemokaaSxJ
set_option linter.unusedVariables false
set_option linter.unusedSimpArgs false
namespace Go.Proofs.Ytdfpenjhpemokaa.Sx
open Go.RowKit (Below)

def zrep (z : Array Value) (n : Nat) : List SV := (List.range n).map fun i => SV.ofValue (z[i % z.size]!)
theorem zrep_den (ρ : Env) (b : Bd) (z : Array Value) (n : Nat) : (SV.denL ρ b (zrep z n)).toArray = (Array.range n).map (z[· % z.size]!) := by
  apply Array.ext'
  rw [zrep, denL_map, List.map_map]
  simp [Array.toList_range, Function.comp_def, SV.ofValue_den]
theorem zrep_ok (ρ : Env) (N : Nat → Prop) (z : Array Value) (n : Nat) : SV.okL ρ N (zrep z n) :=
  (okL_all _ _ _).2 fun v hv => by
    obtain ⟨x, _, rfl⟩ := List.mem_map.1 hv
    exact SV.ofValue_ok ρ N _
def zcells (P : Program) (e : TypeId) (n : Nat) : Option (Array Value) := if n = 0 then some #[] else (zeroT P e).map (·.cells)
theorem run_zcells {P : Program} {e : TypeId} {n : Nat} {z : Array Value} (h : zcells P e n = some z) (w : World) : (if n = 0 then pure #[] else do pure (← zeroValue e).cells : Sem (Array Value)).run P w = .ok z w := by
  unfold zcells at h
  split at h
  · rename_i h0; cases h; simp [h0]
  · rename_i h0
    rw [Option.map_eq_some_iff] at h
    obtain ⟨v, hv, rfl⟩ := h
    simp [h0, run_zero hv]
def litNat : SV → Option Nat
  | .int .i64 r => if r.lo = r.hi ∧ 0 ≤ r.lo then some r.lo.toNat else none
  | _ => none
theorem litNat_ok {x : SV} {n : Nat} (h : litNat x = some n) {ρ : Env} {b : Bd} {N : Nat → Prop} (hx : x.ok ρ N) : x.den ρ b = .int .i64 (n : Int) := by
  unfold litNat at h
  split at h
  · split at h
    · rename_i r hc
      cases h
      have : r.e.i ρ = r.lo := by have := hx.1; have := hx.2; omega
      simp only [SV.den, this]; congr 1; omega
    · cases h
  · cases h

/-- One operation that makes a block: its value, the block's cells, their type. -/
def opN (P : Program) (A : List E) (S : St) (o : Oper) : Option (SV × List SV × TypeId) :=
  match o.op with
  | .alloc t => (zeroT P t).map fun z => (.ptr S.next 0, zeroL z, t)
  | .box t x => match ev A S x with
    | some v => if oneOrAgg v = true then some (.ptr S.next 0, v.cells, t) else none
    | none => none
  | .buildSlice t len parts =>
    match P.underlying t, evParts A S parts.toList with
    | some (.slice e), some ps => match sizeT P e with
      | some size => if len * size ≤ 2 ^ 24 then
          match zcells P e (len * size) with
          | some z => match sFill (fun i => some (i * size, size)) (zrep z (len * size)) ps with
            | some cs => some (.sl S.next 0 len (some len), cs, e)
            | none => none
          | none => none
        else none
      | none => none
    | _, _ => none
  | .makeSlice t l c =>
    match P.underlying t, ev A S l, ev A S c with
    | some (.slice e), some lv, some cv => match litNat lv, litNat cv, P.info? e with
      | some n, some k, some i => if n ≤ k ∧ i.bytes * k ≤ 1000000000 ∧ k ≤ 1000000 then
          match zcells P e (k * i.size) with
          | some z => some (.sl S.next 0 n (some k), zrep z (k * i.size), e)
          | none => none
        else none
      | _, _, _ => none
    | _, _, _ => none
  | _ => none
/-- One operation that writes: its value, the new state. -/
def opW (P : Program) (A : List E) (S : St) (o : Oper) : Option (SV × St) :=
  match o.op with
  | .store t x v => match ev A S x, ev A S v with
    | some p, some u => (sStore P A S t p u).map fun S' => (.tup [], S')
    | _, _ => none
  | .call { callee := .builtin .append, args := args, argTypes := ts } => match args.toList, ts.toList with
    | [x, y], [t, t'] => match ev A S x, ev A S y with
      | some s, some u => sAppend P A S t t' s u
      | _, _ => none
    | _, _ => none
  | _ => none

/-- What an operation leaves: a value for its temporary. -/
def leaves (P : Program) (o : Oper) (a : Act) (w : World) (v : Value) (w' : World) : Prop :=
  (execOp a.eval o).run P w = .ok (.value v) w' ∨ ((execOp a.eval o).run P w = .ok .skip w' ∧ v = undef)

theorem opN_ok {P : Program} {ρ : Env} {b : Bd} {base : Nat → Prop} {w0 w : World} {S : St} {a : Act} {A : List E} (h : Rel ρ b base w0 w S a.tmps) (hA : allB ρ A) {o : Oper} {v : SV} {cells : List SV} {elem : TypeId} (ho : opN P A S o = some (v, cells, elem)) :
    leaves P o a w (v.den ρ (b.put S.next w.heap.size 0 0)) (w.alloc (.cells (SV.denL ρ b cells).toArray elem)) ∧ SV.okL ρ (· < S.next) cells ∧ v.ok ρ (· < S.next + 1) := by
  unfold opN at ho
  split at ho
  · rename_i t hop
    rw [Option.map_eq_some_iff] at ho
    obtain ⟨z, hz, he⟩ := ho
    cases he
    refine ⟨.inl ?_, zeroL_ok ρ _ z, Nat.lt_succ_self _⟩
    rw [zeroL_den]
    simp [execOp, hop, Instr.alloc, run_zero hz, newVar, newRow, SV.den, Bd.put]
  · rename_i t x hop
    split at ho
    · rename_i u hx
      split at ho
      · rename_i h1
        cases ho
        have e1 := ev_ok h hA hx
        refine ⟨.inl ?_, SV.cells_ok e1.2, Nat.lt_succ_self _⟩
        rw [← SV.cells_den ρ b (oneOrAgg_ok h1)]
        simp [execOp, hop, Instr.box, e1.1, newVar, newRow, SV.den, Bd.put]
      · cases ho
    · cases ho
  · rename_i t len parts hop
    split at ho
    · rename_i e ps hu hps
      split at ho
      · rename_i size hs
        split at ho
        · rename_i hle
          split at ho
          · rename_i z hz
            split at ho
            · rename_i cs hcs
              cases ho
              have e1 := evParts_ok h hA hps
              have hf := sFill_ok (b := b) ps _ _ hcs (zrep_ok ρ _ z _) e1.2
              rw [zrep_den] at hf
              refine ⟨.inl ?_, hf.2, Nat.lt_succ_self _⟩
              have hz' := run_zcells hz w
              have hpa : (parts.map fun (i, x) => (i, a.eval x)).toList = ps.map fun x => (x.1, x.2.den ρ b) := by rw [Array.toList_map]; exact e1.1
              simp only [execOp, hop, Instr.buildSlice, Sem.run_bind, run_underlying hu, Result.andThen, run_sizeOf hs]
              rw [if_neg (by omega)]
              unfold zcells at hz
              by_cases h0 : len * size = 0
              · have hf1 := hf.1
                rw [if_pos h0] at hz
                cases hz
                simp [h0] at hf1
                simp [h0, e1.1, hf1, newRow, SV.den, Bd.put]
              · have hf1 := hf.1
                rw [if_neg h0, Option.map_eq_some_iff] at hz
                obtain ⟨zv, hzv, rfl⟩ := hz
                simp [h0, e1.1, run_zero hzv, hf1, newRow, SV.den, Bd.put]
            · cases ho
          · cases ho
        · cases ho
      · cases ho
    · cases ho
  · rename_i t l c hop
    split at ho
    · rename_i e lv cv hu hl hc
      split at ho
      · rename_i n k i hln hck hi
        split at ho
        · rename_i hb
          obtain ⟨b1, b2, b3⟩ := hb
          split at ho
          · rename_i z hz
            cases ho
            have e1 := ev_ok h hA hl
            have e2 := ev_ok h hA hc
            have d1 := litNat_ok hln (b := b) e1.2
            have d2 := litNat_ok hck (b := b) e2.2
            refine ⟨.inl ?_, zrep_ok ρ _ z _, Nat.lt_succ_self _⟩
            rw [zrep_den]
            have hz' := run_zcells hz w
            have w1 : IntKind.i64.wrap (n : Int) = n := IntWalk.i64_in _ (by omega)
            have w2 : IntKind.i64.wrap (k : Int) = k := IntWalk.i64_in _ (by omega)
            have w3 : ((i.bytes : Int) * (k : Int)) = ((i.bytes * k : Nat) : Int) := by simp
            have t1 : (decide ((k : Int) < 0) || decide ((i.bytes : Int) * (k : Int) > 2 ^ 48)) = false := by
              rw [w3]; simp; omega
            simp only [execOp, hop, Instr.makeSlice, Sem.run_bind, run_underlying hu, Result.andThen, e1.1, e2.1, d1, d2, asInt, asIntOf, Sem.run_pure, typeInfo, run_program, hi, w1, w2]
            rw [if_neg (by simp [t1]; omega)]
            unfold zcells at hz
            by_cases h0 : k * i.size = 0
            · rw [if_pos h0] at hz
              cases hz
              simp [h0, sizeOf, typeInfo, hi, newRow, SV.den, Bd.put]
            · rw [if_neg h0, Option.map_eq_some_iff] at hz
              obtain ⟨zv, hzv, rfl⟩ := hz
              simp [h0, sizeOf, typeInfo, hi, run_zero hzv, newRow, SV.den, Bd.put]
          · cases ho
        · cases ho
      · cases ho
    · cases ho
  · cases ho
theorem opW_ok {P : Program} {ρ : Env} {b : Bd} {base : Nat → Prop} {w0 w : World} {S S' : St} {a : Act} {A : List E} (h : Rel ρ b base w0 w S a.tmps) (hA : allB ρ A) {o : Oper} {v : SV} (ho : opW P A S o = some (v, S')) :
    ∃ b' w', leaves P o a w (v.den ρ b') w' ∧ Agree b b' (· < S.next) ∧ Rel ρ b' base w0 w' S' a.tmps ∧ v.ok ρ (· < S'.next) ∧ S.next ≤ S'.next := by
  unfold opW at ho
  split at ho
  · rename_i t x u hop
    split at ho
    · rename_i p y hp hy
      rw [Option.map_eq_some_iff] at ho
      obtain ⟨S1, hs, he⟩ := ho
      cases he
      have e1 := ev_ok h hA hp
      have e2 := ev_ok h hA hy
      obtain ⟨w', hr, hrel, hnx⟩ := sStore_ok hs h e2.2
      refine ⟨b, w', .inr ⟨?_, rfl⟩, Agree.refl b _, hrel, trivial, by omega⟩
      simp [execOp, hop, e1.1, e2.1, hr]
    · cases ho
  · rename_i args ts hop
    split at ho
    · rename_i x y t t' hx ht
      split at ho
      · rename_i s u hs hu
        have e1 := ev_ok h hA hs
        have e2 := ev_ok h hA hu
        obtain ⟨b', w', hr, ha, hrel, hok, hle⟩ := sAppend_ok (ty := o.type) ho h hA e1.2
        refine ⟨b', w', .inl ?_, ha, hrel, hok, hle⟩
        obtain rfl : args = #[x, y] := by apply Array.ext'; simpa using hx
        obtain rfl : ts = #[t, t'] := by apply Array.ext'; simpa using ht
        simp [execOp, hop, resolve, invoke, builtin, e1.1, e2.1, hr]
      · cases ho
    · cases ho
  · cases ho

theorem leaves_wp {P : Program} {o : Oper} {a : Act} {w w' : World} {v : Value} (h : leaves P o a w v w') {K : Act → World → Prop} {Q : Exit → Act → World → Prop} (hk : K (a.put o.dst v) w') : o.wp P a w K Q := by
  unfold Oper.wp
  rcases h with h | ⟨h, rfl⟩ <;> rw [h] <;> exact hk
end Go.Proofs.Ytdfpenjhpemokaa.Sx
