/-
  A verified symbolic executor, part 4: states; operations that only compute or read.
-/
import Derived.Test.YtdfpenjhpemokaaSxC
import Derived.Laws.Cells
import Derived.Below
set_option linter.unusedVariables false
set_option linter.unusedSimpArgs false
namespace Go.Proofs.Ytdfpenjhpemokaa.Sx
open Go.RowKit (Below)

def allB (ρ : Env) (l : List E) : Prop := ∀ e ∈ l, e.b ρ = true
/-- Is each of g among A? -/
def sub (g A : List E) : Bool := g.all fun e => A.any fun x => e.same x
theorem sub_ok {ρ : Env} {g A : List E} (h : sub g A = true) (hA : allB ρ A) : allB ρ g := by
  intro e he
  unfold sub at h
  rw [List.all_eq_true] at h
  have := h e he
  rw [List.any_eq_true] at this
  obtain ⟨x, hx, hs⟩ := this
  rw [E.same_eq hs]; exact hA x hx

structure Ent where
  g : List E
  sv : SV
  deriving Inhabited
structure HEnt where
  g : List E
  blk : Blk
  deriving Inhabited
structure St where
  tmps : List (Nat × Ent)
  heap : List (Nat × HEnt)
  next : Nat
  nt : Nat
  deriving Inhabited

/-- Nothing of F is changed. -/
structure Kept (F : Nat → Prop) (w w' : World) : Prop where
  os : w'.os = w.os
  tape : w'.tape = w.tape
  output : w'.output = w.output
  size : w.heap.size ≤ w'.heap.size
  block : ∀ k, F k → w'.heap[k]? = w.heap[k]?
theorem Kept.refl (F : Nat → Prop) (w : World) : Kept F w w := ⟨rfl, rfl, rfl, Nat.le_refl _, fun _ _ => rfl⟩
theorem Kept.trans {F : Nat → Prop} {a b c : World} (h : Kept F a b) (k : Kept F b c) : Kept F a c :=
  ⟨k.os.trans h.os, k.tape.trans h.tape, k.output.trans h.output, Nat.le_trans h.size k.size, fun i hi => (k.block i hi).trans (h.block i hi)⟩
theorem Kept.mono {F G : Nat → Prop} {w w' : World} (h : Kept F w w') (hG : ∀ k, G k → F k) : Kept G w w' := ⟨h.os, h.tape, h.output, h.size, fun k hk => h.block k (hG k hk)⟩
theorem Kept.drew {F : Nat → Prop} {a w : World} (h : Kept F a w) : Kept F a w.drew := ⟨h.os, h.tape, h.output, h.size, h.block⟩
theorem Kept.alloc {F : Nat → Prop} {a w : World} (h : Kept F a w) (hF : ∀ k, F k → k < w.heap.size) (o : Obj) : Kept F a (w.alloc o) :=
  h.trans ⟨rfl, rfl, rfl, by simp, fun k hk => Below.heap_alloc _ _ _ (hF k hk)⟩
theorem Kept.of {w w' : World} {n : Nat} (h : Below n w w') : Kept (· < n) w w' := ⟨h.os, h.tape, h.output, h.size, h.block⟩
theorem Kept.below {w w' : World} {n : Nat} (h : Kept (· < n) w w') : Below n w w' := ⟨h.os, h.tape, h.output, h.size, h.block⟩
/-- What the given slices hold, all along. -/
def Mel (ρ : Env) (base : Nat → Prop) (w : World) : Prop := ∀ k i v, (ρ.mv k)[i]? = some v → ∃ p off, (ρ.ov k).1 = some ⟨p, off, none⟩ ∧ base p ∧ w.cell? ⟨p, off + i, none⟩ = some v
/-- What the slices hold that lie in elements of given ones. -/
def Men (ρ : Env) (base : Nat → Prop) (w : World) : Prop := ∀ k i q v, (ρ.mn k i)[q]? = some v → ∃ p off, (ρ.es k i).1 = some ⟨p, off, none⟩ ∧ base p ∧ w.cell? ⟨p, off + q, none⟩ = some v
def Mem (ρ : Env) (base : Nat → Prop) (w : World) : Prop := Mel ρ base w ∧ Men ρ base w
theorem Mem.kept {ρ : Env} {base : Nat → Prop} {w w' : World} (h : Mem ρ base w) (hk : Kept base w w') : Mem ρ base w' := ⟨fun k i v hv => by
  obtain ⟨p, off, h1, h2, h3⟩ := h.1 k i v hv
  exact ⟨p, off, h1, h2, (World.cell?_of_block (w := w) (hk.block p h2)).trans h3⟩, fun k i q v hv => by
  obtain ⟨p, off, h1, h2, h3⟩ := h.2 k i q v hv
  exact ⟨p, off, h1, h2, (World.cell?_of_block (w := w) (hk.block p h2)).trans h3⟩⟩
theorem Mem.mono {ρ : Env} {base base' : Nat → Prop} {w : World} (h : Mem ρ base w) (hb : ∀ k, base k → base' k) : Mem ρ base' w := ⟨fun k i v hv => by
  obtain ⟨p, off, h1, h2, h3⟩ := h.1 k i v hv
  exact ⟨p, off, h1, hb p h2, h3⟩, fun k i q v hv => by
  obtain ⟨p, off, h1, h2, h3⟩ := h.2 k i q v hv
  exact ⟨p, off, h1, hb p h2, h3⟩⟩
theorem Mem.none {ρ : Env} {base : Nat → Prop} {w : World} (h : ρ.mv = fun _ => []) (h' : ρ.mn = fun _ _ => []) : Mem ρ base w := ⟨fun k i v hv => (by rw [h] at hv; cases hv), fun k i q v hv => (by rw [h'] at hv; cases hv)⟩
/-- The same slices, otherwise named. -/
theorem Mem.of {ρ ρ' : Env} {base : Nat → Prop} {w : World} (h : Mem ρ base w) (h1 : ρ'.mv = ρ.mv) (h2 : ρ'.ov = ρ.ov) (h3 : ρ'.es = ρ.es) (h4 : ρ'.mn = ρ.mn) : Mem ρ' base w := ⟨fun k i v hv => (by rw [h1] at hv; rw [h2]; exact h.1 k i v hv), fun k i q v hv => (by rw [h4] at hv; rw [h3]; exact h.2 k i q v hv)⟩
/-- The named blocks stand so. -/
structure HRel (ρ : Env) (b : Bd) (base : Nat → Prop) (w : World) (H : List (Nat × HEnt)) (N : Nat → Prop) : Prop where
  mem : ∀ n h, find H n = some h → allB ρ h.g → N n ∧ h.blk.ok ρ b base w n ∧ SV.okL ρ N h.blk.cells
  inj : ∀ n m h k, find H n = some h → find H m = some k → allB ρ h.g → allB ρ k.g → h.blk.own = true → k.blk.own = true → b.β n = b.β m → n = m
/-- A temporary holds what its entry says, where its guards hold, and nothing, where not. -/
def Ent.at (ρ : Env) (b : Bd) (N : Nat → Prop) (tm : Array Value) (i : Nat) (e : Ent) : Prop :=
  (allB ρ e.g → tm[i]? = some (e.sv.den ρ b) ∧ e.sv.ok ρ N) ∧ (¬ allB ρ e.g → tm[i]? = some undef)
structure Rel (ρ : Env) (b : Bd) (bs : Nat → Prop) (w0 w : World) (S : St) (tm : Array Value) : Prop where
  heap : HRel ρ b bs w S.heap (· < S.next)
  tmps : ∀ i e, find S.tmps i = some e → e.at ρ b (· < S.next) tm i
  below : Kept bs w0 w
  base : (∀ k, bs k → k < w.heap.size)
  nt : tm.size = S.nt
  kept : Mem ρ bs w0

/-- An operand under what is taken for granted. -/
def ev (A : List E) (S : St) : Operand → Option SV
  | .tmp t => match find S.tmps t with
    | some e => if sub e.g A then some e.sv else none
    | none => none
  | .const v => some (SV.ofValue v)
  | .func f => some (.fn f [])
  | .global _ => none
theorem ev_ok {ρ : Env} {b : Bd} {base : Nat → Prop} {w0 w : World} {S : St} {a : Act} {A : List E} (h : Rel ρ b base w0 w S a.tmps) (hA : allB ρ A) {x : Operand} {v : SV} (hx : ev A S x = some v) : a.eval x = v.den ρ b ∧ v.ok ρ (· < S.next) := by
  cases x with
  | tmp t =>
    simp only [ev] at hx
    cases hf : find S.tmps t with
    | none => rw [hf] at hx; cases hx
    | some e =>
      rw [hf] at hx
      dsimp only at hx
      split at hx
      · rename_i hs
        cases hx
        obtain ⟨h1, h2⟩ := (h.tmps t e hf).1 (sub_ok hs hA)
        refine ⟨?_, h2⟩
        simp [Act.eval, Array.getD_eq_getD_getElem?, h1]
      · cases hx
  | const v => cases hx; exact ⟨(SV.ofValue_den ρ b v).symm, SV.ofValue_ok ρ _ v⟩
  | func f => cases hx; exact ⟨by simp [Act.eval, SV.den, SV.denL], trivial⟩
  | global g => cases hx
/-- A named block. -/
def blkOf (A : List E) (S : St) (n : Nat) : Option Blk :=
  match find S.heap n with
  | some h => if sub h.g A then some h.blk else none
  | none => none
theorem blkOf_ok {ρ : Env} {b : Bd} {base : Nat → Prop} {w0 w : World} {S : St} {tm : Array Value} {A : List E} (h : Rel ρ b base w0 w S tm) (hA : allB ρ A) {n : Nat} {B : Blk} (hx : blkOf A S n = some B) :
    n < S.next ∧ B.ok ρ b base w n ∧ SV.okL ρ (· < S.next) B.cells := by
  simp only [blkOf] at hx
  cases hf : find S.heap n with
  | none => rw [hf] at hx; cases hx
  | some e =>
    rw [hf] at hx
    dsimp only at hx
    split at hx
    · rename_i hs
      cases hx
      exact h.heap.mem n e hf (sub_ok hs hA)
    · cases hx

/-! Types. -/
def isAggT (P : Program) (t : TypeId) : Option Bool :=
  match P.underlying t with
  | some (.struct _) => some true
  | some (.array _ _) => some true
  | some _ => some false
  | none => none
def sizeT (P : Program) (t : TypeId) : Option Nat := (P.info? t).map (·.size)
theorem run_isAgg {P : Program} {t : TypeId} {x : Bool} (h : isAggT P t = some x) (w : World) : (isAgg t).run P w = .ok x w := by
  unfold isAggT at h
  cases hu : P.underlying t with
  | none => rw [hu] at h; cases h
  | some d =>
    rw [hu] at h
    cases d <;> cases h <;> simp [isAgg, run_underlying hu]
theorem run_sizeOf {P : Program} {t : TypeId} {n : Nat} (h : sizeT P t = some n) (w : World) : (sizeOf t).run P w = .ok n w := by
  unfold sizeT at h
  cases hi : P.info? t with
  | none => rw [hi] at h; cases h
  | some i =>
    rw [hi] at h
    cases h
    simp [sizeOf, typeInfo, hi]

/-- A part of an aggregate's cells. -/
def sPart (P : Program) (t : TypeId) (cs : List SV) (off : Nat) : Option SV :=
  match isAggT P t, sizeT P t with
  | some true, some n => if off + n ≤ cs.length then some (.agg ((cs.drop off).take n)) else none
  | some false, _ => cs[off]?
  | _, _ => none
theorem okL_take {ρ : Env} {N : Nat → Prop} {l : List SV} (h : SV.okL ρ N l) (i n : Nat) : SV.okL ρ N ((l.drop i).take n) :=
  (okL_all _ _ _).2 fun v hv => (okL_all _ _ _).1 h v (List.mem_of_mem_drop (List.mem_of_mem_take hv))
theorem denL_take (ρ : Env) (b : Bd) (l : List SV) (i n : Nat) : SV.denL ρ b ((l.drop i).take n) = ((SV.denL ρ b l).drop i).take n := by
  rw [denL_map, denL_map, List.map_take, List.map_drop]
theorem sPart_ok {P : Program} {t : TypeId} {cs : List SV} {off : Nat} {v : SV} (h : sPart P t cs off = some v) {ρ : Env} {b : Bd} {N : Nat → Prop} (hk : SV.okL ρ N cs) (w : World) :
    (part t (SV.denL ρ b cs).toArray off).run P w = .ok (v.den ρ b) w ∧ v.ok ρ N := by
  unfold sPart at h
  split at h
  · rename_i n ha hs
    split at h
    · rename_i hl
      cases h
      refine ⟨?_, okL_take hk _ _⟩
      simp only [part, Sem.run_bind, run_isAgg ha, Result.andThen, if_true, run_sizeOf hs]
      simp only [SV.den, denL_take]
      simp [List.extract_eq_take_drop, Nat.add_sub_cancel_left]
    · cases h
  · rename_i ha
    refine ⟨?_, okL_get hk h⟩
    simp [part, Sem.run_bind, run_isAgg ha, denL_get, h]
  · cases h
/-- What is loaded of a block's cells. -/
theorem sLoad_ok {P : Program} {t : TypeId} {cs : List SV} {off : Nat} {v : SV} (h : sPart P t cs off = some v) {ρ : Env} {b : Bd} {N : Nat → Prop} (hk : SV.okL ρ N cs) {w : World} {a : Addr}
    (hc : ∀ i u, cs[off + i]? = some u → w.cell? (a.add i) = some (u.den ρ b)) :
    (loadVar t a).run P w = .ok (v.den ρ b) w ∧ v.ok ρ N := by
  unfold sPart at h
  split at h
  · rename_i n ha hs
    split at h
    · rename_i hl
      cases h
      refine ⟨?_, okL_take hk _ _⟩
      have hlen : (SV.denL ρ b ((cs.drop off).take n)).length = n := by rw [denL_length]; simp; omega
      have := run_loadCells_list (P := P) w a (SV.denL ρ b ((cs.drop off).take n)) (fun j u hj => by
        rw [denL_get] at hj
        cases hg : ((cs.drop off).take n)[j]? with
        | none => rw [hg] at hj; cases hj
        | some x =>
          rw [hg] at hj
          cases hj
          refine hc j x ?_
          rw [List.getElem?_take] at hg
          split at hg
          · simpa using hg
          · cases hg)
      rw [hlen] at this
      simp only [loadVar, Sem.run_bind, run_isAgg ha, Result.andThen, if_true, run_sizeOf hs, this]
      rfl
    · cases h
  · rename_i ha
    refine ⟨?_, okL_get hk h⟩
    have := hc 0 v (by simpa using h)
    simp only [Addr.add, if_true] at this
    simp [loadVar, run_isAgg ha, load, Sem.run, this]
  · cases h
end Go.Proofs.Ytdfpenjhpemokaa.Sx
