/-
  A verified symbolic executor, part 9: operations that make blocks or write into them.
-/
import Derived.Test.YtdfpenjhpemokaaSxHE
import Derived.Laws.CopyRow
import Derived.Laws.Rows
set_option linter.unusedVariables false
set_option linter.unusedSimpArgs false
namespace Go.Proofs.Ytdfpenjhpemokaa.Sx
open Go.RowKit (Below)

def Bd.put (b : Bd) (n β o κ : Nat) : Bd := ⟨fun m => if m = n then β else b.β m, fun m => if m = n then o else b.o m, fun m => if m = n then κ else b.κ m⟩
theorem Bd.put_agree {N : Nat → Prop} (b : Bd) {n : Nat} (β o κ : Nat) (hn : ¬ N n) : Agree b (b.put n β o κ) N := by
  intro m hm
  have : ¬ m = n := fun e => hn (e ▸ hm)
  simp [Bd.put, this]
theorem Agree.refl (b : Bd) (N : Nat → Prop) : Agree b b N := fun _ _ => ⟨rfl, rfl, rfl⟩
theorem Agree.trans {b c d : Bd} {N M : Nat → Prop} (h : Agree b c N) (k : Agree c d M) (hNM : ∀ n, N n → M n) : Agree b d N := fun n hn => by
  obtain ⟨a1, a2, a3⟩ := h n hn
  obtain ⟨b1, b2, b3⟩ := k n (hNM n hn)
  exact ⟨b1.trans a1, b2.trans a2, b3.trans a3⟩

theorem Blk.ok.lt {ρ : Env} {b : Bd} {base : Nat → Prop} {w : World} {n : Nat} {B : Blk} (h : B.ok ρ b base w n) (hb : (∀ k, base k → k < w.heap.size)) : b.β n < w.heap.size := by
  by_cases ho : B.own = true
  · exact (h.base ho).2.1
  · unfold Blk.ok at h
    unfold Blk.own at ho
    split at h
    · simp_all
    · simp_all
    · exact hb _ h.1

/-- A world in which more is, and nothing is changed. -/
theorem HRel.mono {ρ : Env} {b b' : Bd} {base : Nat → Prop} {w w' : World} {H : List (Nat × HEnt)} {N M : Nat → Prop} (h : HRel ρ b base w H N) (hb : Agree b b' N) (hN : ∀ n, N n → M n) (hw : ∀ k, k < w.heap.size → w'.heap[k]? = w.heap[k]?) (hbase : (∀ k, base k → k < w.heap.size)) : HRel ρ b' base w' H M where
  mem := fun n e hf hg => by
    obtain ⟨h1, h2, h3⟩ := h.mem n e hf hg
    exact ⟨hN n h1, h2.keep h1 h3 hb (hw _ (h2.lt hbase)), SV.okL_mono hN _ h3⟩
  inj := fun n m e k hf hk hg hgk ho hok heq => by
    obtain ⟨h1, _, _⟩ := h.mem n e hf hg
    obtain ⟨h2, _, _⟩ := h.mem m k hk hgk
    exact h.inj n m e k hf hk hg hgk ho hok (by rw [← (hb n h1).1, ← (hb m h2).1]; exact heq)

/-- A new block. -/
theorem HRel.new {ρ : Env} {b : Bd} {base : Nat → Prop} {w : World} {H : List (Nat × HEnt)} {nx : Nat} (h : HRel ρ b base w H (· < nx)) (hbase : (∀ k, base k → k < w.heap.size)) {cells : List SV} (hk : SV.okL ρ (· < nx) cells) (elem : TypeId) :
    HRel ρ (b.put nx w.heap.size 0 0) base (w.alloc (.cells (SV.denL ρ b cells).toArray elem)) (push H nx ⟨[], ⟨cells, elem, .full⟩⟩) (· < nx + 1) := by
  have hn : ¬ (nx < nx) := Nat.lt_irrefl _
  have ha : Agree b (b.put nx w.heap.size 0 0) (· < nx) := Bd.put_agree b _ _ _ hn
  have hm := h.mono (w' := w.alloc (.cells (SV.denL ρ b cells).toArray elem)) (M := (· < nx + 1)) ha (fun n h => Nat.lt_succ_of_lt h) (fun k hk => heap_alloc_old w _ k hk) hbase
  have hput : (b.put nx w.heap.size 0 0).β nx = w.heap.size := by simp [Bd.put]
  constructor
  · intro n e hf hg
    rw [find_push] at hf
    split at hf
    · rename_i hnn
      subst hnn
      cases hf
      refine ⟨Nat.lt_succ_self _, ⟨by simp [Bd.put], by rw [hput]; exact fun hc => Nat.lt_irrefl _ (hbase _ hc), ?_⟩, SV.okL_mono (fun n h => Nat.lt_succ_of_lt h) _ hk⟩
      rw [hput, heap_alloc_new, SV.denL_agree ha _ hk]
    · exact hm.mem n e hf hg
  · intro n m e k hf hkf hg hgk ho hok heq
    rw [find_push] at hf hkf
    split at hf
    · rename_i hnn
      subst hnn
      split at hkf
      · rename_i hmm; exact hmm
      · exfalso
        obtain ⟨h1, h2, _⟩ := h.mem m k hkf hgk
        have h3 := (ha m h1).1
        rw [hput] at heq
        rw [h3] at heq
        have := (h2.base hok).2.1
        omega
    · split at hkf
      · rename_i hmm
        subst hmm
        exfalso
        obtain ⟨h1, h2, _⟩ := h.mem n e hf hg
        have h3 := (ha n h1).1
        rw [hput, h3] at heq
        have := (h2.base ho).2.1
        omega
      · exact hm.inj n m e k hf hkf hg hgk ho hok heq

/-- A block of the call's own is written. -/
theorem HRel.write {ρ : Env} {b : Bd} {base : Nat → Prop} {w w' : World} {H : List (Nat × HEnt)} {N : Nat → Prop} (h : HRel ρ b base w H N) {n : Nat} {e : HEnt} (hf : find H n = some e) (hg : allB ρ e.g) (ho : e.blk.own = true)
    {B : Blk} (hB : B.own = true) (hok : B.ok ρ b base w' n) (hk : SV.okL ρ N B.cells) (hw : ∀ k, k ≠ b.β n → w'.heap[k]? = w.heap[k]?) : HRel ρ b base w' (upd H n ⟨e.g, B⟩) N where
  mem := fun m x hm hgm => by
    rw [find_upd] at hm
    split at hm
    · rename_i hnm
      subst hnm
      cases hm
      exact ⟨(h.mem n e hf hg).1, hok, hk⟩
    · rename_i hnm
      obtain ⟨h1, h2, h3⟩ := h.mem m x hm hgm
      refine ⟨h1, h2.keep h1 h3 (Agree.refl b N) (hw _ ?_), h3⟩
      intro heq
      by_cases hox : x.blk.own = true
      · exact hnm (h.inj n m e x hf hm hg hgm ho hox heq.symm)
      · have e1 := ((h.mem n e hf hg).2.1.base ho).1
        have : base (b.β m) := by
          unfold Blk.ok at h2
          unfold Blk.own at hox
          split at h2
          · simp_all
          · simp_all
          · exact h2.1
        rw [heq] at this
        exact e1 this
  inj := fun m p x y hm hp hgm hgp hox hoy heq => by
    rw [find_upd] at hm hp
    split at hm
    · rename_i hnm
      subst hnm
      cases hm
      split at hp
      · assumption
      · exact h.inj n p e y hf hp hg hgp ho hoy heq
    · split at hp
      · rename_i hnp
        subst hnp
        cases hp
        exact h.inj m n x e hm hf hgm hg hox ho heq
      · exact h.inj m p x y hm hp hgm hgp hox hoy heq

/-! What an operation leaves behind: the state, its value. -/
/-- A new block of these cells; its name. -/
def St.new (S : St) (cells : List SV) (elem : TypeId) : St := { S with heap := push S.heap S.next ⟨[], ⟨cells, elem, .full⟩⟩, next := S.next + 1 }
theorem Rel.new {ρ : Env} {b : Bd} {base : Nat → Prop} {w0 w : World} {S : St} {tm : Array Value} (h : Rel ρ b base w0 w S tm) {cells : List SV} (hk : SV.okL ρ (· < S.next) cells) (elem : TypeId) :
    Agree b (b.put S.next w.heap.size 0 0) (· < S.next) ∧ Rel ρ (b.put S.next w.heap.size 0 0) base w0 (w.alloc (.cells (SV.denL ρ b cells).toArray elem)) (S.new cells elem) tm := by
  have ha : Agree b (b.put S.next w.heap.size 0 0) (· < S.next) := Bd.put_agree b _ _ _ (Nat.lt_irrefl _)
  refine ⟨ha, h.heap.new h.base hk elem, fun i e hf => ?_, h.below.alloc h.base _, fun k hk => by rw [World.size_alloc]; exact Nat.lt_succ_of_lt (h.base k hk), h.nt, h.kept⟩
  obtain ⟨h1, h2⟩ := h.tmps i e hf
  refine ⟨fun hg => ?_, h2⟩
  obtain ⟨h3, h4⟩ := h1 hg
  exact ⟨by rw [SV.den_agree ha _ h4]; exact h3, SV.ok_mono (fun n h => Nat.lt_succ_of_lt h) _ h4⟩

def sPut (cs : List SV) (off : Nat) (vs : List SV) : List SV := cs.take off ++ vs ++ cs.drop (off + vs.length)
theorem sPut_ok {ρ : Env} {N : Nat → Prop} {cs vs : List SV} (off : Nat) (h : SV.okL ρ N cs) (hv : SV.okL ρ N vs) : SV.okL ρ N (sPut cs off vs) :=
  (okL_all _ _ _).2 fun x hx => by
    unfold sPut at hx
    rw [List.mem_append, List.mem_append] at hx
    rcases hx with (hx | hx) | hx
    · exact (okL_all _ _ _).1 h x (List.mem_of_mem_take hx)
    · exact (okL_all _ _ _).1 hv x hx
    · exact (okL_all _ _ _).1 h x (List.mem_of_mem_drop hx)
theorem put_get {cs vs : List SV} {off i : Nat} {v : SV} {arr : List Value} (f : SV → Value) (hl : off + vs.length ≤ cs.length) (ha : cs.length ≤ arr.length) (h : ∀ (i : Nat) (v : SV), cs[i]? = some v → arr[i]? = some (f v)) (hi : (sPut cs off vs)[i]? = some v) :
    (arr.take off ++ vs.map f ++ arr.drop (off + vs.length))[i]? = some (f v) := by
  unfold sPut at hi
  rw [List.append_assoc] at hi ⊢
  rw [List.getElem?_append] at hi ⊢
  have e1 : (cs.take off).length = off := by simp; omega
  have e2 : (arr.take off).length = off := by simp; omega
  rw [e1] at hi
  rw [e2]
  split at hi
  · rename_i hlt
    rw [if_pos hlt]
    rw [List.getElem?_take] at hi ⊢
    rw [if_pos hlt] at hi ⊢
    exact h i v hi
  · rename_i hlt
    rw [if_neg hlt]
    rw [List.getElem?_append] at hi ⊢
    rw [List.length_map]
    split at hi
    · rename_i h2
      rw [if_pos h2, List.getElem?_map, hi]; rfl
    · rename_i h2
      rw [if_neg h2]
      rw [List.getElem?_drop] at hi ⊢
      exact h _ v hi

/-- A store: the new state. -/
def sStore (P : Program) (A : List E) (S : St) (t : TypeId) (x v : SV) : Option St :=
  match x with
  | .ptr n off =>
    match find S.heap n with
    | some h =>
      if h.g.isEmpty = true ∧ h.blk.own = true ∧ A.isEmpty = true ∧ oneOrAgg v = true ∧ v.cells.all SV.isOne = true ∧ sizeT P t = some v.cells.length ∧ off + v.cells.length ≤ h.blk.cells.length
      then some { S with heap := upd S.heap n ⟨h.g, { h.blk with cells := sPut h.blk.cells off v.cells }⟩ } else none
    | none => none
  | _ => none
theorem sStore_ok {P : Program} {A : List E} {S S' : St} {t : TypeId} {x v : SV} (hs : sStore P A S t x v = some S') {ρ : Env} {b : Bd} {base : Nat → Prop} {w0 w : World} {tm : Array Value} (h : Rel ρ b base w0 w S tm) (hv : v.ok ρ (· < S.next)) :
    ∃ w', (Instr.storeAt t (x.den ρ b) (v.den ρ b)).run P w = .ok () w' ∧ Rel ρ b base w0 w' S' tm ∧ S'.next = S.next := by
  unfold sStore at hs
  split at hs
  · rename_i n off
    split at hs
    · rename_i e hf
      split at hs
      · rename_i hc
        cases hs
        obtain ⟨h1, h2, _, h3, h4, h5, h6⟩ := hc
        have hg : allB ρ e.g := by have : e.g = [] := by simpa using h1
                                   rw [this]; intro _ h; cases h
        obtain ⟨m1, m2, m3⟩ := h.heap.mem n e hf hg
        have hcell := SV.cells_den ρ b (oneOrAgg_ok h3)
        have hlen : (v.den ρ b).cells.size = v.cells.length := by rw [hcell]; simp [denL_length]
        have hone : ∀ u ∈ SV.denL ρ b v.cells, u.oneCell' = true := by
          intro u hu
          rw [denL_map, List.mem_map] at hu
          obtain ⟨y, hy, rfl⟩ := hu
          exact (SV.isOne_den (List.all_eq_true.1 h4 y hy) ρ b).1
        have hvk : SV.okL ρ (· < S.next) v.cells := SV.cells_ok hv
        have hb := m2.base h2
        have key : ∃ arr : Array Value, w.heap[b.β n]? = some (.cells arr e.blk.elem (0, 0)) ∧ e.blk.cells.length ≤ arr.size ∧ (∀ w', w'.heap[b.β n]? = some (.cells (arr.toList.take off ++ SV.denL ρ b v.cells ++ arr.toList.drop (off + v.cells.length)).toArray e.blk.elem (0, 0)) → Blk.ok ρ b base w' n { e.blk with cells := sPut e.blk.cells off v.cells }) := by
          have hm2 := m2
          unfold Blk.ok at m2
          split at m2
          · rename_i hkd
            obtain ⟨a1, a2, a3⟩ := m2
            refine ⟨_, a3, by simp [denL_length], fun w' hw' => ?_⟩
            unfold Blk.ok
            simp only [hkd]
            refine ⟨a1, a2, ?_⟩
            rw [hw', denL_map, denL_map]
            simp [sPut, denL_map, List.map_take, List.map_drop]
          · rename_i sz hkd
            obtain ⟨a1, a2, arr, a3, a4, a5, a6⟩ := m2
            refine ⟨arr, a3, a5, fun w' hw' => ?_⟩
            unfold Blk.ok
            simp only [hkd]
            refine ⟨a1, a2, _, hw', ?_, ?_, ?_⟩
            · rw [← a4]; simp [denL_length]; omega
            · simp [sPut, denL_length]; omega
            · intro i u hi
              have := put_get (SV.den ρ b) (arr := arr.toList) h6 (by simpa using a5) (fun i v hi => by simpa using a6 i v hi) hi
              rw [denL_map]
              simpa using this
          · rename_i hkd
            unfold Blk.own at h2
            rw [hkd] at h2
            cases h2
        obtain ⟨arr, k1, k2, k3⟩ := key
        have hrun := run_storeCells_at P (b.β n) off e.blk.elem (SV.denL ρ b v.cells) 0 arr w k1 (by rw [denL_length]; omega) hone
        refine ⟨_, ?_, ⟨h.heap.write hf hg h2 (B := { e.blk with cells := sPut e.blk.cells off v.cells }) h2 (k3 _ (by
          have := setRow_heap w (b.β n) arr (arr.toList.take (off + 0) ++ SV.denL ρ b v.cells ++ arr.toList.drop (off + 0 + (SV.denL ρ b v.cells).length)).toArray e.blk.elem _ k1
          rw [this, denL_length]
          simp)) (sPut_ok off m3 hvk) (fun k hk => setRow_other w (b.β n) k _ hk), h.tmps, ?_, ?_, h.nt, h.kept⟩, rfl⟩
        · simp only [Instr.storeAt, SV.den, Instr.sureAddr, storeVar, Sem.run_bind, Sem.run_pure, Result.andThen, run_sizeOf h5, hlen]
          rw [if_neg (by simp)]
          rw [hcell]
          have e0 : b.o n + off = off := by rw [hb.2.2]; omega
          rw [e0]
          exact hrun
        · have hbel := h.below
          exact ⟨hbel.os, hbel.tape, hbel.output, by simpa using hbel.size, fun k hk => by
            rw [setRow_other w (b.β n) k _ (fun e => hb.1 (e ▸ hk))]; exact hbel.block k hk⟩
        · have := h.base; simpa using this
      · cases hs
    · cases hs
  · cases hs
end Go.Proofs.Ytdfpenjhpemokaa.Sx
