/-
  A verified symbolic executor, part 3: symbolic values, blocks, states; what they stand for.
-/
import Derived.Test.YtdfpenjhpemokaaSxB
import Derived.Laws.World
import Derived.Laws.AppendOwn
set_option linter.unusedVariables false
set_option linter.unusedSimpArgs false
namespace Go.Proofs.Ytdfpenjhpemokaa.Sx

/-- What names of blocks stand for: the block, where it begins in it, how much it can hold. -/
structure Bd where
  β : Nat → Nat
  o : Nat → Nat
  κ : Nat → Nat
/-- The kind of a cell of a given slice's elements. -/
inductive CK where
  | int (k : IntKind) (lo hi : Int) | bool | slc
  deriving DecidableEq, Repr, Inhabited
inductive SV where
  | int (k : IntKind) (r : R)
  | bool (e : E)
  | nilp | ptr (n off : Nat)
  | nils | sl (n off len : Nat) (cap : Option Nat) | slv (n off : Nat) (len : R) | emp (k : Nat) | osl (k : Nat) (sh : List CK) (len : R) | optr (k : Nat) (sh : List CK) (i : R) (off : Nat) | esl (id : Nat) (i : E)
  | nili | ifc (t : TypeId) (v : SV) | err (r : R)
  | nilf | fn (f : FuncId) (caps : List SV)
  | agg (l : List SV) | tup (l : List SV)
  | con (v : Value)
  deriving Inhabited

/-- What cell j of element i of given slice k is called. -/
def CK.fid (k j : Nat) : Nat := 1000 + 100 * k + j
def CK.sv (c : CK) (k j : Nat) (i : E) : SV := match c with
  | .int kd lo hi => .int kd ⟨.ap (CK.fid k j) (.cons i .nil), lo, hi⟩
  | .bool => .bool (.ap (CK.fid k j) (.cons i .nil))
  | .slc => .esl (CK.fid k j) i
/-- A slice that lies in a given slice's element. -/
def Env.slc (ρ : Env) (id : Nat) (i : Int) : Value := .slice (ρ.es id i).1 (ρ.es id i).2.1 (ρ.es id i).2.2
def CK.val (ρ : Env) (c : CK) (k j : Nat) (i : Int) : Value := match c with
  | .int kd _ _ => .int kd (ρ.fn (CK.fid k j) [i])
  | .bool => .bool (ρ.fb (CK.fid k j) [i])
  | .slc => ρ.slc (CK.fid k j) i
def CK.fits (ρ : Env) (c : CK) (k j : Nat) (i : Int) : Prop := match c with
  | .int _ lo hi => lo ≤ ρ.fn (CK.fid k j) [i] ∧ ρ.fn (CK.fid k j) [i] ≤ hi
  | .bool => True
  | .slc => ρ.fn (CK.fid k j) [i] = (ρ.es (CK.fid k j) i).2.1 ∧ (ρ.es (CK.fid k j) i).2.1 ≤ 9223372036854775807
/-- Element i of given slice k. -/
def CK.elem (ρ : Env) (sh : List CK) (k : Nat) (i : Nat) : Prop := ∀ j c, sh[j]? = some c → (ρ.mv k)[i * sh.length + j]? = some (c.val ρ k j i) ∧ c.fits ρ k j i
mutual
def SV.den (ρ : Env) (b : Bd) : SV → Value
  | .int k r => .int k (r.e.i ρ)
  | .bool e => .bool (e.b ρ)
  | .nilp => .pointer none
  | .ptr n off => .pointer (some ⟨b.β n, b.o n + off, none⟩)
  | .nils => .slice none 0 0
  | .sl n off len cap => .slice (some ⟨b.β n, b.o n + off, none⟩) len (cap.getD (b.κ n))
  | .slv n off len => .slice (some ⟨b.β n, b.o n + off, none⟩) (len.e.i ρ).toNat (b.κ n)
  | .emp k => .slice (ρ.ov k).1 0 (ρ.ov k).2
  | .osl k _ len => .slice (ρ.ov k).1 (len.e.i ρ).toNat (ρ.ov k).2
  | .optr k sh i off => .pointer ((ρ.ov k).1.map fun a => ⟨a.block, a.off + ((i.e.i ρ).toNat * sh.length + off), none⟩)
  | .esl id i => ρ.slc id (i.i ρ)
  | .nili => .nilIface
  | .ifc t v => .iface t (v.den ρ b)
  | .err r => if r.e.i ρ = 0 then .nilIface else .iface ρ.et (.int .i64 (r.e.i ρ))
  | .nilf => .nilFunc
  | .fn f l => .func (.func f) #[] (SV.denL ρ b l).toArray
  | .agg l => .agg (SV.denL ρ b l).toArray
  | .tup l => .tuple (SV.denL ρ b l).toArray
  | .con v => v
def SV.denL (ρ : Env) (b : Bd) : List SV → List Value
  | [] => []
  | a :: l => a.den ρ b :: SV.denL ρ b l
end
mutual
/-- Its numbers lie within their bounds, its blocks are among N. -/
def SV.ok (ρ : Env) (N : Nat → Prop) : SV → Prop
  | .int _ r => r.ok ρ
  | .ptr n _ => N n
  | .sl n _ _ _ => N n
  | .slv n _ len => N n ∧ len.ok ρ ∧ 0 ≤ len.lo
  | .osl k sh len => len.ok ρ ∧ 0 ≤ len.lo ∧ (∀ i : Nat, (i : Int) < len.e.i ρ → CK.elem ρ sh k i) ∧ len.e.i ρ = ρ.ol k
  | .optr k sh i _ => i.ok ρ ∧ 0 ≤ i.e.i ρ ∧ CK.elem ρ sh k (i.e.i ρ).toNat ∧ ∃ p o, (ρ.ov k).1 = some ⟨p, o, none⟩
  | .esl id i => ρ.fn id [i.i ρ] = (ρ.es id (i.i ρ)).2.1 ∧ (ρ.es id (i.i ρ)).2.1 ≤ 9223372036854775807
  | .ifc _ v => v.ok ρ N
  | .err r => r.ok ρ
  | .fn _ l => SV.okL ρ N l
  | .agg l => SV.okL ρ N l
  | .tup l => SV.okL ρ N l
  | _ => True
def SV.okL (ρ : Env) (N : Nat → Prop) : List SV → Prop
  | [] => True
  | a :: l => a.ok ρ N ∧ SV.okL ρ N l
end
theorem CK.sv_den (ρ : Env) (b : Bd) (c : CK) (k j : Nat) (i : E) : (c.sv k j i).den ρ b = c.val ρ k j (i.i ρ) := by
  cases c <;> simp [CK.sv, CK.val, SV.den, E.i, E.b, E.l]
theorem CK.sv_ok {ρ : Env} {N : Nat → Prop} {c : CK} {k j : Nat} {i : E} (h : c.fits ρ k j (i.i ρ)) : (c.sv k j i).ok ρ N := by
  cases c
  · simpa [CK.sv, SV.ok, R.ok, E.i, E.l, CK.fits] using h
  · trivial
  · exact h
/-- Names that stand for the same. -/
def Agree (b b' : Bd) (N : Nat → Prop) : Prop := ∀ n, N n → b'.β n = b.β n ∧ b'.o n = b.o n ∧ b'.κ n = b.κ n

theorem denL_map (ρ : Env) (b : Bd) (l : List SV) : SV.denL ρ b l = l.map (SV.den ρ b) := by
  induction l with
  | nil => simp [SV.denL]
  | cons a l ih => rw [SV.denL, ih]; rfl
theorem denL_length (ρ : Env) (b : Bd) (l : List SV) : (SV.denL ρ b l).length = l.length := by rw [denL_map]; simp
theorem denL_get (ρ : Env) (b : Bd) (l : List SV) (i : Nat) : (SV.denL ρ b l)[i]? = (l[i]?).map (SV.den ρ b) := by rw [denL_map]; simp
theorem okL_all (ρ : Env) (N : Nat → Prop) (l : List SV) : SV.okL ρ N l ↔ ∀ v ∈ l, v.ok ρ N := by
  induction l with
  | nil => simp [SV.okL]
  | cons a l ih => rw [SV.okL, ih]; simp
theorem okL_get {ρ : Env} {N : Nat → Prop} {l : List SV} (h : SV.okL ρ N l) {i : Nat} {v : SV} (hi : l[i]? = some v) : v.ok ρ N :=
  (okL_all ρ N l).1 h v (List.mem_of_getElem? hi)

mutual
theorem SV.den_agree {ρ : Env} {b b' : Bd} {N : Nat → Prop} (hb : Agree b b' N) : (v : SV) → v.ok ρ N → v.den ρ b' = v.den ρ b
  | .int k r, _ => rfl
  | .bool e, _ => rfl
  | .nilp, _ => rfl
  | .ptr n off, h => by
    have := hb n h
    simp only [SV.den, this]
  | .nils, _ => rfl
  | .sl n off len cap, h => by
    have := hb n h
    simp only [SV.den, this]
  | .slv n off len, h => by
    have := hb n h.1
    simp only [SV.den, this]
  | .emp k, _ => rfl
  | .osl _ _ _, _ => rfl
  | .optr _ _ _ _, _ => rfl
  | .esl _ _, _ => rfl
  | .nili, _ => rfl
  | .ifc t v, h => by simp only [SV.den]; rw [SV.den_agree hb v h]
  | .err r, _ => rfl
  | .nilf, _ => rfl
  | .fn f l, h => by simp only [SV.den]; rw [SV.denL_agree hb l h]
  | .agg l, h => by simp only [SV.den]; rw [SV.denL_agree hb l h]
  | .tup l, h => by simp only [SV.den]; rw [SV.denL_agree hb l h]
  | .con v, _ => rfl
theorem SV.denL_agree {ρ : Env} {b b' : Bd} {N : Nat → Prop} (hb : Agree b b' N) : (l : List SV) → SV.okL ρ N l → SV.denL ρ b' l = SV.denL ρ b l
  | [], _ => rfl
  | a :: l, h => by simp only [SV.denL]; rw [SV.den_agree hb a h.1, SV.denL_agree hb l h.2]
end
mutual
theorem SV.ok_mono {ρ : Env} {N M : Nat → Prop} (hN : ∀ n, N n → M n) : (v : SV) → v.ok ρ N → v.ok ρ M
  | .int k r, h => h
  | .bool e, _ => trivial
  | .nilp, _ => trivial
  | .ptr n off, h => hN n h
  | .nils, _ => trivial
  | .sl n off len cap, h => hN n h
  | .slv n off len, h => ⟨hN n h.1, h.2⟩
  | .emp k, h => trivial
  | .osl _ _ _, h => h
  | .optr _ _ _ _, h => h
  | .esl _ _, h => h
  | .nili, _ => trivial
  | .ifc t v, h => SV.ok_mono hN v h
  | .err r, h => h
  | .nilf, _ => trivial
  | .fn f l, h => SV.okL_mono hN l h
  | .agg l, h => SV.okL_mono hN l h
  | .tup l, h => SV.okL_mono hN l h
  | .con v, _ => trivial
theorem SV.okL_mono {ρ : Env} {N M : Nat → Prop} (hN : ∀ n, N n → M n) : (l : List SV) → SV.okL ρ N l → SV.okL ρ M l
  | [], _ => trivial
  | a :: l, h => ⟨SV.ok_mono hN a h.1, SV.okL_mono hN l h.2⟩
end

/-- A constant of the program as a symbolic value. -/
def SV.ofValue : Value → SV
  | .int k n => .int k ⟨.c n, n, n⟩
  | .bool b => .bool (.bc b)
  | .pointer none => .nilp
  | .slice none 0 0 => .nils
  | .nilIface => .nili
  | .nilFunc => .nilf
  | v => .con v
theorem SV.ofValue_den (ρ : Env) (b : Bd) (v : Value) : (SV.ofValue v).den ρ b = v := by
  unfold SV.ofValue
  split <;> rfl
theorem SV.ofValue_ok (ρ : Env) (N : Nat → Prop) (v : Value) : (SV.ofValue v).ok ρ N := by
  unfold SV.ofValue
  split <;> first | exact trivial | exact ⟨Int.le_refl _, Int.le_refl _⟩
def SV.isOne : SV → Bool
  | .agg _ | .tup _ | .con _ => false
  | _ => true
theorem SV.isOne_den {v : SV} (h : v.isOne = true) (ρ : Env) (b : Bd) : (v.den ρ b).oneCell' = true ∧ (v.den ρ b).cells = #[v.den ρ b] := by
  cases v <;> simp [SV.isOne] at h <;> simp only [SV.den] <;> (try split) <;> exact ⟨rfl, rfl⟩
/-- Its cells. -/
def SV.cells : SV → List SV
  | .agg l => l
  | v => [v]
theorem SV.cells_den {v : SV} (ρ : Env) (b : Bd) (h : v.isOne = true ∨ ∃ l, v = .agg l) : (v.den ρ b).cells = (SV.denL ρ b v.cells).toArray := by
  rcases h with h | ⟨l, rfl⟩
  · rw [(SV.isOne_den h ρ b).2]
    cases v <;> simp [SV.isOne] at h <;> rfl
  · rfl
theorem SV.cells_ok {v : SV} {ρ : Env} {N : Nat → Prop} (h : v.ok ρ N) : SV.okL ρ N v.cells := by
  cases v <;> first | exact h | exact ⟨h, trivial⟩

/-! Lists by number. -/
def find {α : Type} : List (Nat × α) → Nat → Option α
  | [], _ => none
  | (m, x) :: l, n => if m = n then some x else find l n
def upd {α : Type} : List (Nat × α) → Nat → α → List (Nat × α)
  | [], n, y => [(n, y)]
  | (m, x) :: l, n, y => if m = n then (m, y) :: l else (m, x) :: upd l n y
def push {α : Type} (l : List (Nat × α)) (n : Nat) (y : α) : List (Nat × α) := (n, y) :: l
theorem find_push {α : Type} (l : List (Nat × α)) (n : Nat) (y : α) (m : Nat) : find (push l n y) m = if n = m then some y else find l m := rfl
def del {α : Type} : List (Nat × α) → Nat → List (Nat × α)
  | [], _ => []
  | (m, x) :: l, n => if m = n then del l n else (m, x) :: del l n
theorem find_upd {α : Type} (l : List (Nat × α)) (n : Nat) (y : α) (m : Nat) : find (upd l n y) m = if n = m then some y else find l m := by
  induction l with
  | nil => simp [upd, find]
  | cons a l ih =>
    obtain ⟨k, x⟩ := a
    unfold upd
    by_cases h : k = n
    · subst h; simp [find]; split <;> rfl
    · simp only [h, if_false, find, ih]
      by_cases h2 : k = m
      · subst h2
        have : ¬ n = k := fun e => h e.symm
        simp [this]
      · simp [h2]
theorem find_del {α : Type} (l : List (Nat × α)) (n : Nat) (m : Nat) : find (del l n) m = if n = m then none else find l m := by
  induction l with
  | nil => simp [del, find]
  | cons a l ih =>
    obtain ⟨k, x⟩ := a
    unfold del
    by_cases h : k = n
    · subst h; simp only [if_true, ih, find]; split <;> simp_all
    · simp only [h, if_false, find, ih]
      by_cases h2 : k = m
      · subst h2
        have : ¬ n = k := fun e => h e.symm
        simp [this]
      · simp [h2]

/-! Blocks. -/
inductive BK where
  | full | grow (size : Nat) | far
  deriving DecidableEq, Repr, Inhabited
structure Blk where
  cells : List SV
  elem : TypeId
  kind : BK
  deriving Inhabited
def Blk.own (B : Blk) : Bool := match B.kind with | .far => false | _ => true
/-- The named block stands so in the world; what lies below 'base' was there before. -/
def Blk.ok (ρ : Env) (b : Bd) (base : Nat → Prop) (w : World) (n : Nat) (B : Blk) : Prop :=
  match B.kind with
  | .full => b.o n = 0 ∧ ¬ base (b.β n) ∧ w.heap[b.β n]? = some (.cells (SV.denL ρ b B.cells).toArray B.elem (0, 0))
  | .grow size => b.o n = 0 ∧ ¬ base (b.β n) ∧ ∃ arr : Array Value, w.heap[b.β n]? = some (.cells arr B.elem (0, 0)) ∧ arr.size = b.κ n * size ∧ B.cells.length ≤ arr.size ∧ ∀ (i : Nat) (v : SV), B.cells[i]? = some v → arr[i]? = some (v.den ρ b)
  | .far => base (b.β n) ∧ ∀ (i : Nat) (v : SV), B.cells[i]? = some v → w.cell? ⟨b.β n, b.o n + i, none⟩ = some (v.den ρ b)
theorem Blk.ok.cell {ρ : Env} {b : Bd} {base : Nat → Prop} {w : World} {n : Nat} {B : Blk} (h : B.ok ρ b base w n) {i : Nat} {v : SV} (hi : B.cells[i]? = some v) : w.cell? ⟨b.β n, b.o n + i, none⟩ = some (v.den ρ b) := by
  unfold Blk.ok at h
  split at h
  · obtain ⟨h0, _, h2⟩ := h
    simp [World.cell?, h2, h0, denL_get, hi]
  · obtain ⟨h0, _, arr, h2, _, _, h3⟩ := h
    simp [World.cell?, h2, h0, h3 i v hi]
  · exact h.2 i v hi
theorem Blk.ok.frozen {ρ : Env} {b : Bd} {base : Nat → Prop} {w : World} {n : Nat} {B : Blk} (h : B.ok ρ b base w n) (ho : B.own = true) (i : Nat) : w.frozen? ⟨b.β n, i, none⟩ = false := by
  unfold Blk.ok at h
  unfold Blk.own at ho
  split at h
  · simp [World.frozen?, h.2.2]
  · obtain ⟨_, _, arr, h2, _⟩ := h
    simp [World.frozen?, h2]
  · simp_all
theorem Blk.ok.base {ρ : Env} {b : Bd} {base : Nat → Prop} {w : World} {n : Nat} {B : Blk} (h : B.ok ρ b base w n) (ho : B.own = true) : ¬ base (b.β n) ∧ b.β n < w.heap.size ∧ b.o n = 0 := by
  unfold Blk.ok at h
  unfold Blk.own at ho
  split at h
  · exact ⟨h.2.1, (Array.getElem?_eq_some_iff.1 h.2.2).1, h.1⟩
  · obtain ⟨h0, h1, arr, h2, _⟩ := h
    exact ⟨h1, (Array.getElem?_eq_some_iff.1 h2).1, h0⟩
  · simp_all
/-- A block that was not touched. -/
theorem Blk.ok.keep {ρ : Env} {b b' : Bd} {base : Nat → Prop} {w w' : World} {n : Nat} {B : Blk} {N : Nat → Prop} (h : B.ok ρ b base w n) (hn : N n) (hok : SV.okL ρ N B.cells) (hb : Agree b b' N) (hw : w'.heap[b.β n]? = w.heap[b.β n]?) : B.ok ρ b' base w' n := by
  obtain ⟨e1, e2, e3⟩ := hb n hn
  unfold Blk.ok at h ⊢
  split at h
  · rw [e1, e2, hw, SV.denL_agree hb _ hok]; exact h
  · rw [e1, e2, hw, e3]
    obtain ⟨h0, h1, arr, h2, h3, h4, h5⟩ := h
    exact ⟨h0, h1, arr, h2, h3, h4, fun i v hi => by rw [SV.den_agree hb v (okL_get hok hi)]; exact h5 i v hi⟩
  · rw [e1, e2]
    refine ⟨h.1, fun i v hi => ?_⟩
    rw [SV.den_agree hb v (okL_get hok hi), ← h.2 i v hi]
    exact World.cell?_of_block (w := w) hw
end Go.Proofs.Ytdfpenjhpemokaa.Sx
