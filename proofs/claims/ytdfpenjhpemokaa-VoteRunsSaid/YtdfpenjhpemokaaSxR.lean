/-
  A verified symbolic executor, part 18: regions whose order is drawn: what each operation gives, by what must lie before it alone.
-/
import Derived.Test.YtdfpenjhpemokaaSxQ
set_option linter.unusedVariables false
set_option linter.unusedSimpArgs false
namespace Go.Proofs.Ytdfpenjhpemokaa.Sx
open Go.RowKit (Below)

mutual
def SV.same : SV → SV → Bool
  | .int k a, .int j c => decide (k = j) && a.e.same c.e && decide (a.lo = c.lo) && decide (a.hi = c.hi)
  | .bool a, .bool c => a.same c
  | .nilp, .nilp => true
  | .ptr n o, .ptr m p => decide (n = m) && decide (o = p)
  | .nils, .nils => true
  | .sl n o l c, .sl m p k d => decide (n = m) && decide (o = p) && decide (l = k) && decide (c = d)
  | .emp n, .emp m => decide (n = m)
  | .osl n s l, .osl m t k => decide (n = m) && decide (s = t) && l.e.same k.e && decide (l.lo = k.lo) && decide (l.hi = k.hi)
  | .esl n i, .esl m j => decide (n = m) && i.same j
  | .optr n s l o, .optr m t k p => decide (n = m) && decide (s = t) && l.e.same k.e && decide (l.lo = k.lo) && decide (l.hi = k.hi) && decide (o = p)
  | .slv n o l, .slv m p k => decide (n = m) && decide (o = p) && l.e.same k.e && decide (l.lo = k.lo) && decide (l.hi = k.hi)
  | .nili, .nili => true
  | .ifc t v, .ifc u x => decide (t = u) && v.same x
  | .err a, .err c => a.e.same c.e && decide (a.lo = c.lo) && decide (a.hi = c.hi)
  | .nilf, .nilf => true
  | .fn f l, .fn g m => decide (f = g) && SV.sameL l m
  | .agg l, .agg m => SV.sameL l m
  | .tup l, .tup m => SV.sameL l m
  | _, _ => false
def SV.sameL : List SV → List SV → Bool
  | [], [] => true
  | a :: l, c :: m => a.same c && SV.sameL l m
  | _, _ => false
end
theorem R.ext {a c : R} (h1 : a.e = c.e) (h2 : a.lo = c.lo) (h3 : a.hi = c.hi) : a = c := by cases a; cases c; simp_all
mutual
theorem SV.same_eq : (x y : SV) → x.same y = true → x = y
  | .int k a, y, h => by
    cases y <;> simp [SV.same] at h
    rw [h.1.1.1, R.ext (E.same_eq h.1.1.2) h.1.2 h.2]
  | .bool a, y, h => by cases y <;> simp [SV.same] at h; rw [E.same_eq h]
  | .nilp, y, h => by cases y <;> simp [SV.same] at h; rfl
  | .ptr n o, y, h => by cases y <;> simp [SV.same] at h; rw [h.1, h.2]
  | .nils, y, h => by cases y <;> simp [SV.same] at h; rfl
  | .sl n o l c, y, h => by cases y <;> simp [SV.same] at h; rw [h.1.1.1, h.1.1.2, h.1.2, h.2]
  | .emp n, y, h => by cases y <;> simp [SV.same] at h; rw [h]
  | .osl n s l, y, h => by cases y <;> simp [SV.same] at h; rw [h.1.1.1.1, h.1.1.1.2, R.ext (E.same_eq h.1.1.2) h.1.2 h.2]
  | .esl n i, y, h => by cases y <;> simp [SV.same] at h; rw [h.1, E.same_eq h.2]
  | .optr n s l o, y, h => by cases y <;> simp [SV.same] at h; rw [h.1.1.1.1.1, h.1.1.1.1.2, R.ext (E.same_eq h.1.1.1.2) h.1.1.2 h.1.2, h.2]
  | .slv n o l, y, h => by cases y <;> simp [SV.same] at h; rw [h.1.1.1.1, h.1.1.1.2, R.ext (E.same_eq h.1.1.2) h.1.2 h.2]
  | .nili, y, h => by cases y <;> simp [SV.same] at h; rfl
  | .ifc t v, y, h => by
    cases y <;> simp [SV.same] at h
    rw [h.1, SV.same_eq v _ h.2]
  | .err a, y, h => by
    cases y <;> simp [SV.same] at h
    rw [R.ext (E.same_eq h.1.1) h.1.2 h.2]
  | .nilf, y, h => by cases y <;> simp [SV.same] at h; rfl
  | .fn f l, y, h => by
    cases y <;> simp [SV.same] at h
    rw [h.1, SV.sameL_eq l _ h.2]
  | .agg l, y, h => by
    cases y <;> simp [SV.same] at h
    rw [SV.sameL_eq l _ h]
  | .tup l, y, h => by
    cases y <;> simp [SV.same] at h
    rw [SV.sameL_eq l _ h]
  | .con v, y, h => by cases y <;> simp [SV.same] at h
theorem SV.sameL_eq : (x y : List SV) → SV.sameL x y = true → x = y
  | [], y, h => by cases y <;> simp [SV.sameL] at h; rfl
  | a :: l, y, h => by
    cases y with
    | nil => simp [SV.sameL] at h
    | cons c m =>
      simp [SV.sameL] at h
      rw [SV.same_eq a c h.1, SV.sameL_eq l m h.2]
end
mutual
theorem SV.ok_names {ρ : Env} {N M : Nat → Prop} : (v : SV) → v.ok ρ N → (∀ n ∈ v.names, M n) → v.ok ρ M
  | .int _ _, h, _ => h
  | .bool _, _, _ => trivial
  | .nilp, _, _ => trivial
  | .ptr n _, _, h => h n (by simp [SV.names])
  | .nils, _, _ => trivial
  | .sl n _ _ _, _, h => h n (by simp [SV.names])
  | .slv n _ _, h, k => ⟨k n (by simp [SV.names]), h.2⟩
  | .emp _, h, _ => h
  | .osl _ _ _, h, _ => h
  | .optr _ _ _ _, h, _ => h
  | .esl _ _, h, _ => h
  | .nili, _, _ => trivial
  | .ifc _ v, h, k => SV.ok_names v h k
  | .err _, h, _ => h
  | .nilf, _, _ => trivial
  | .fn _ l, h, k => SV.okL_names l h k
  | .agg l, h, k => SV.okL_names l h k
  | .tup l, h, k => SV.okL_names l h k
  | .con _, _, _ => trivial
theorem SV.okL_names {ρ : Env} {N M : Nat → Prop} : (l : List SV) → SV.okL ρ N l → (∀ n ∈ SV.namesL l, M n) → SV.okL ρ M l
  | [], _, _ => trivial
  | a :: l, h, k => ⟨SV.ok_names a h.1 (fun n hn => k n (by simp [SV.namesL, hn])), SV.okL_names l h.2 (fun n hn => k n (by simp [SV.namesL, hn]))⟩
end

/-! What must lie before each operation. -/
def edgesOf (o : Oper) : List Nat := (o.after.toList.filter (Region.binds .any)).map fun e => e.on
/-- As a mask for each operation. -/
def befs : List Oper → List Nat → List Nat
  | [], acc => acc
  | o :: l, acc => befs l (acc ++ [(edgesOf o).foldl (fun m e => Nat.lor m (Nat.lor (Nat.shiftLeft 1 e) (acc[e]?.getD 0))) 0])
/-- What an operation gives: in which part of the state it was taken, what came of it. -/
structure OR where
  V : St
  U : St
  deriving Inhabited
abbrev RS := Nat → Option OR
def news (x : OR) : List (Nat × HEnt) := restrict (fun n e => if decide (x.V.next ≤ n) && decide (n < x.U.next) && e.blk.own then some e else none) x.U.heap x.U.heap
/-- What of the blocks that were there it wrote. -/
def wrote (x : OR) : List (Nat × List SV) := x.V.heap.filterMap fun y =>
  match find x.V.heap y.1, find x.U.heap y.1 with
  | some e, some u => if e.blk.own && !(SV.sameL e.blk.cells u.blk.cells) then some (y.1, u.blk.cells) else none
  | _, _ => none
def lastW : List (Nat × List SV) → Nat → Option (List SV)
  | [], _ => none
  | (m, c) :: l, n => match lastW l n with
    | some d => some d
    | none => if m = n then some c else none
def wrsAt (r : RS) (j : Nat) : List (Nat × List SV) := match r j with
  | some x => wrote x
  | none => []
def wrsOf (r : RS) (l : List Nat) : List (Nat × List SV) := l.flatMap (wrsAt r)
def keysAt (r : RS) (j : Nat) : List Nat := match r j with
  | some x => (news x).map (·.1)
  | none => []
def baseE (r : RS) (S : St) : List Nat → Nat → Option HEnt
  | [], n => find S.heap n
  | j :: l, n => match (r j).bind fun x => find (news x) n with
    | some e => some e
    | none => baseE r S l n
def applyW (r : RS) (l : List Nat) (n : Nat) (e : HEnt) : HEnt := match lastW (wrsOf r l) n with
  | some c => { e with blk := { e.blk with cells := c } }
  | none => e
def entL (r : RS) (S : St) (l : List Nat) (n : Nat) : Option HEnt := (baseE r S l n).map (applyW r l n)
def ownT (ops : List Oper) (t : Nat) : Option Nat := ops.findIdx? fun o => decide (o.dst = some t)
def tmpL (r : RS) (ops : List Oper) (S : St) (l : List Nat) (t : Nat) : Option Ent :=
  match ownT ops t with
  | some j => if l.contains j then (r j).bind fun x => find x.U.tmps t else find S.tmps t
  | none => find S.tmps t
def keysH (r : RS) (S : St) (l : List Nat) : List Nat := S.heap.map (·.1) ++ l.flatMap (keysAt r)
def keysT (ops : List Oper) (S : St) : List Nat := S.tmps.map (·.1) ++ ops.filterMap (·.dst)
/-- The part of the state that an operation sees: what lies before it, without what others may write. -/
def viewOf (r : RS) (ops : List Oper) (S : St) (l : List Nat) (hide hideT : Nat → Bool) (kt kh : List Nat) (G : List E) (lo : Nat) : St where
  tmps := kt.filterMap fun t => if hideT t then none else (tmpL r ops S l t).map fun e => (t, e)
  heap := kh.filterMap fun n => if hide n then none else (entL r S l n).bind fun e => if sub e.g G then some (n, e) else none
  next := lo
  nt := S.nt
theorem viewOf_tmps {r : RS} {ops : List Oper} {S : St} {l : List Nat} {hide hideT : Nat → Bool} {kt kh : List Nat} {G : List E} {lo : Nat} {t : Nat} {e : Ent} (h : find (viewOf r ops S l hide hideT kt kh G lo).tmps t = some e) : tmpL r ops S l t = some e ∧ hideT t = false := by
  have := find_mem h
  simp only [viewOf, List.mem_filterMap] at this
  obtain ⟨k, _, hk⟩ := this
  split at hk
  · cases hk
  · rename_i hh
    rw [Option.map_eq_some_iff] at hk
    obtain ⟨x, hx, hk⟩ := hk
    cases hk
    exact ⟨hx, by simpa using hh⟩
theorem viewOf_heap {r : RS} {ops : List Oper} {S : St} {l : List Nat} {hide hideT : Nat → Bool} {kt kh : List Nat} {G : List E} {lo : Nat} {n : Nat} {e : HEnt} (h : find (viewOf r ops S l hide hideT kt kh G lo).heap n = some e) : entL r S l n = some e ∧ hide n = false ∧ sub e.g G = true := by
  have := find_mem h
  simp only [viewOf, List.mem_filterMap] at this
  obtain ⟨k, _, hk⟩ := this
  split at hk
  · cases hk
  · rename_i hh
    rw [Option.bind_eq_some_iff] at hk
    obtain ⟨x, hx, hk⟩ := hk
    split at hk
    · rename_i hs
      cases hk
      exact ⟨hx, by simpa using hh, hs⟩
    · cases hk
end Go.Proofs.Ytdfpenjhpemokaa.Sx
