/-
  A verified symbolic executor, part 18: regions whose order is drawn: what each operation gives, by what must lie before it alone.
-/
import Derived.Test.YtdfpenjhpemokaaSxQ
set_option linter.unusedVariables false
set_option linter.unusedSimpArgs false
namespace Go.Proofs.Ytdfpenjhpemokaa.Sx
open Go.RowKit (Below)

mutual
def SV.same : SV → SV → Bool
  | .int k a, .int j c => decide (k = j) && a.e.same c.e && decide (a.lo = c.lo) && decide (a.hi = c.hi)
  | .bool a, .bool c => a.same c
  | .nilp, .nilp => true
  | .ptr n o, .ptr m p => decide (n = m) && decide (o = p)
  | .nils, .nils => true
  | .sl n o l c, .sl m p k d => decide (n = m) && decide (o = p) && decide (l = k) && decide (c = d)
  | .emp n, .emp m => decide (n = m)
  | .osl n s l, .osl m t k => decide (n = m) && decide (s = t) && l.e.same k.e && decide (l.lo = k.lo) && decide (l.hi = k.hi)
  | .esl n i, .esl m j => decide (n = m) && i.same j
  | .optr n s l o, .optr m t k p => decide (n = m) && decide (s = t) && l.e.same k.e && decide (l.lo = k.lo) && decide (l.hi = k.hi) && decide (o = p)
  | .slv n o l, .slv m p k => decide (n = m) && decide (o = p) && l.e.same k.e && decide (l.lo = k.lo) && decide (l.hi = k.hi)
  | .nili, .nili => true
  | .ifc t v, .ifc u x => decide (t = u) && v.same x
  | .err a, .err c => a.e.same c.e && decide (a.lo = c.lo) && decide (a.hi = c.hi)
  | .nilf, .nilf => true
  | .fn f l, .fn g m => decide (f = g) && SV.sameL l m
  | .agg l, .agg m => SV.sameL l m
  | .tup l, .tup m => SV.sameL l m
  | _, _ => false
def SV.sameL : List SV → List SV → Bool
  | [], [] => true
  | a :: l, c :: m => a.same c && SV.sameL l m
  | _, _ => false
end
theorem R.ext {a c : R} (h1 : a.e = c.e) (h2 : a.lo = c.lo) (h3 : a.hi = c.hi) : a = c := by cases a; cases c; simp_all
mutual
theorem SV.same_eq : (x y : SV) → x.same y = true → x = y
  | .int k a, y, h => by
    cases y <;> simp [SV.same] at h
    rw [h.1.1.1, R.ext (E.same_eq h.1.1.2) h.1.2 h.2]
  | .bool a, y, h => by cases y <;> simp [SV.same] at h; rw [E.same_eq h]
  | .nilp, y, h => by cases y <;> simp [SV.same] at h; rfl
  | .ptr n o, y, h => by cases y <;> simp [SV.same] at h; rw [h.1, h.2]
  | .nils, y, h => by cases y <;> simp [SV.same] at h; rfl
  | .sl n o l c, y, h => by cases y <;> simp [SV.same] at h; rw [h.1.1.1, h.1.1.2, h.1.2, h.2]
  | .emp n, y, h => by cases y <;> simp [SV.same] at h; rw [h]
  | .osl n s l, y, h => by cases y <;> simp [SV.same] at h; rw [h.1.1.1.1, h.1.1.1.2, R.ext (E.same_eq h.1.1.2) h.1.2 h.2]
  | .esl n i, y, h => by cases y <;> simp [SV.same] at h; rw [h.1, E.same_eq h.2]
  | .optr n s l o, y, h => by cases y <;> simp [SV.same] at h; rw [h.1.1.1.1.1, h.1.1.1.1.2, R.ext (E.same_eq h.1.1.1.2) h.1.1.2 h.1.2, h.2]
  | .slv n o l, y, h => by cases y <;> simp [SV.same] at h; rw [h.1.1.1.1, h.1.1.1.2, R.ext (E.same_eq h.1.1.2) h.1.2 h.2]
  | .nili, y, h => by cases y <;> simp [SV.same] at h; rfl
  | .ifc t v, y, h => by
    cases y <;> simp [SV.same] at h
    rw [h.1, SV.same_eq v _ h.2]
  | .err a, y, h => by
    cases y <;> simp [SV.same] at h
    rw [R.ext (E.same_eq h.1.1) h.1.2 h.2]
  | .nilf, y, h => by cases y <;> simp [SV.same] at h; rfl
  | .fn f l, y, h => by
    cases y <;> simp [SV.same] at h
    rw [h.1, SV.sameL_eq l _ h.2]
  | .agg l, y, h => by
    cases y <;> simp [SV.same] at h
    rw [SV.sameL_eq l _ h]
  | .tup l, y, h => by
    cases y <;> simp [SV.same] at h
    rw [SV.sameL_eq l _ h]
  | .con v, y, h => by cases y <;> simp [SV.same] at h
theorem SV.sameL_eq : (x y : List SV) → SV.sameL x y = true → x = y
  | [], y, h => by cases y <;> simp [SV.sameL] at h; rfl
  | a :: l, y, h => by
    cases y with
    | nil => simp [SV.sameL] at h
    | cons c m =>
      simp [SV.sameL] at h
      rw [SV.same_eq a c h.1, SV.sameL_eq l m h.2]
end
mutual
theorem SV.ok_names {ρ : Env} {N M : Nat → Prop} : (v : SV) → v.ok ρ N → (∀ n ∈ v.names, M n) → v.ok ρ M
  | .int _ _, h, _ => h
  | .bool _, _, _ => trivial
  | .nilp, _, _ => trivial
  | .ptr n _, _, h => h n (by simp [SV.names])
  | .nils, _, _ => trivial
  | .sl n _ _ _, _, h => h n (by simp [SV.names])
  | .slv n _ _, h, k => ⟨k n (by simp [SV.names]), h.2⟩
  | .emp _, h, _ => h
  | .osl _ _ _, h, _ => h
  | .optr _ _ _ _, h, _ => h
  | .esl _ _, h, _ => h
  | .nili, _, _ => trivial
  | .ifc _ v, h, k => SV.ok_names v h k
  | .err _, h, _ => h
  | .nilf, _, _ => trivial
  | .fn _ l, h, k => SV.okL_names l h k
  | .agg l, h, k => SV.okL_names l h k
  | .tup l, h, k => SV.okL_names l h k
  | .con _, _, _ => trivial
theorem SV.okL_names {ρ : Env} {N M : Nat → Prop} : (l : List SV) → SV.okL ρ N l → (∀ n ∈ SV.namesL l, M n) → SV.okL ρ M l
  | [], _, _ => trivial
  | a :: l, h, k => ⟨SV.ok_names a h.1 (fun n hn => k n (by simp [SV.namesL, hn])), SV.okL_names l h.2 (fun n hn => k n (by simp [SV.namesL, hn]))⟩
end

def edgesOf (o : Oper) : List Nat := (o.after.toList.filter (Region.binds .any)).map fun e => e.on
def befs : List Oper → List Nat → List Nat
  | [], acc => acc
  | o :: l, acc => befs l (acc ++ [(edgesOf o).foldl (fun m e => Nat.lor m (Nat.lor (Nat.shiftLeft 1 e) (acc[e]?.getD 0))) 0])
structure OR where
  V : St
  U : St
  deriving Inhabited
abbrev RS := Nat → Option OR
def news (x : OR) : List (Nat × HEnt) := restrict (fun n e => if decide (x.V.next ≤ n) && decide (n < x.U.next) && e.blk.own then some e else none) x.U.heap x.U.heap
def wrote (x : OR) : List (Nat × List SV) := x.V.heap.filterMap fun y =>
  match find x.V.heap y.1, find x.U.heap y.1 with
  | some e, some u => if e.blk.own && !(SV.sameL e.blk.cells u.blk.cells) then some (y.1, u.blk.cells) else none
  | _, _ => none
def lastW : List (Nat × List SV) → Nat → Option (List SV)
  | [], _ => none
  | (m, c) :: l, n => match lastW l n with
    | some d => some d
    | none => if m = n then some c else none
def wrsAt (r : RS) (j : Nat) : List (Nat × List SV) := match r j with
  | some x => wrote x
  | none => []
def wrsOf (r : RS) (l : List Nat) : List (Nat × List SV) := l.flatMap (wrsAt r)
def keysAt (r : RS) (j : Nat) : List Nat := match r j with
  | some x => (news x).map (·.1)
  | none => []
def baseE (r : RS) (S : St) : List Nat → Nat → Option HEnt
  | [], n => find S.heap n
  | j :: l, n => match (r j).bind fun x => find (news x) n with
    | some e => some e
    | none => baseE r S l n
def applyW (r : RS) (l : List Nat) (n : Nat) (e : HEnt) : HEnt := match lastW (wrsOf r l) n with
  | some c => { e with blk := { e.blk with cells := c } }
  | none => e
def entL (r : RS) (S : St) (l : List Nat) (n : Nat) : Option HEnt := (baseE r S l n).map (applyW r l n)
def ownT (ops : List Oper) (t : Nat) : Option Nat := ops.findIdx? fun o => decide (o.dst = some t)
def tmpL (r : RS) (ops : List Oper) (S : St) (l : List Nat) (t : Nat) : Option Ent :=
  match ownT ops t with
  | some j => if l.contains j then (r j).bind fun x => find x.U.tmps t else find S.tmps t
  | none => find S.tmps t
def keysH (r : RS) (S : St) (l : List Nat) : List Nat := S.heap.map (·.1) ++ l.flatMap (keysAt r)
def keysT (ops : List Oper) (S : St) : List Nat := S.tmps.map (·.1) ++ ops.filterMap (·.dst)
def viewOf (r : RS) (ops : List Oper) (S : St) (l : List Nat) (hide hideT : Nat → Bool) (kt kh : List Nat) (G : List E) (lo : Nat) : St where
  tmps := kt.filterMap fun t => if hideT t then none else (tmpL r ops S l t).map fun e => (t, e)
  heap := kh.filterMap fun n => if hide n then none else (entL r S l n).bind fun e => if sub e.g G then some (n, e) else none
  next := lo
  nt := S.nt
theorem viewOf_tmps {r : RS} {ops : List Oper} {S : St} {l : List Nat} {hide hideT : Nat → Bool} {kt kh : List Nat} {G : List E} {lo : Nat} {t : Nat} {e : Ent} (h : find (viewOf r ops S l hide hideT kt kh G lo).tmps t = some e) : tmpL r ops S l t = some e ∧ hideT t = false := by
  have := find_mem h
  simp only [viewOf, List.mem_filterMap] at this
  obtain ⟨k, _, hk⟩ := this
  split at hk
  · cases hk
  · rename_i hh
    rw [Option.map_eq_some_iff] at hk
    obtain ⟨x, hx, hk⟩ := hk
    cases hk
    exact ⟨hx, by simpa using hh⟩
theorem viewOf_heap {r : RS} {ops : List Oper} {S : St} {l : List Nat} {hide hideT : Nat → Bool} {kt kh : List Nat} {G : List E} {lo : Nat} {n : Nat} {e : HEnt} (h : find (viewOf r ops S l hide hideT kt kh G lo).heap n = some e) : entL r S l n = some e ∧ hide n = false ∧ sub e.g G = true := by
  have := find_mem h
  simp only [viewOf, List.mem_filterMap] at this
  obtain ⟨k, _, hk⟩ := this
  split at hk
  · cases hk
  · rename_i hh
    rw [Option.bind_eq_some_iff] at hk
    obtain ⟨x, hx, hk⟩ := hk
    split at hk
    · rename_i hs
      cases hk
      exact ⟨hx, by simpa using hh, hs⟩
    · cases hk
end Go.Proofs.Ytdfpenjhpemokaa.Sx
/-
  A verified symbolic executor, part 19: regions whose order is drawn: one operation more.
-/
namespace Go.Proofs.Ytdfpenjhpemokaa.Sx
open Go.RowKit (Below)

structure GRel (ρ : Env) (b : Bd) (bs : Nat → Prop) (w0 w : World) (Tm : Nat → Option Ent) (Hp : Nat → Option HEnt) (N : Nat → Prop) (tm : Array Value) (nt : Nat) : Prop where
  mem : ∀ n h, Hp n = some h → allB ρ h.g → N n ∧ h.blk.ok ρ b bs w n ∧ SV.okL ρ N h.blk.cells
  inj : ∀ n m h k, Hp n = some h → Hp m = some k → allB ρ h.g → allB ρ k.g → h.blk.own = true → k.blk.own = true → b.β n = b.β m → n = m
  tmps : ∀ i e, Tm i = some e → e.at ρ b N tm i
  below : Kept bs w0 w
  base : ∀ k, bs k → k < w.heap.size
  nt : tm.size = nt
  kept : Mem ρ bs w0
def Fr (ρ : Env) (b : Bd) (base : Nat → Prop) (w : World) (V : St) : Nat → Prop := fun k => base k ∨ (k < w.heap.size ∧ ∀ n h, find V.heap n = some h → allB ρ h.g → h.blk.own = true → b.β n ≠ k)
def viewChk (V : St) : Bool :=
  V.heap.all (fun x => decide (x.1 < V.next) && (SV.namesL x.2.blk.cells).all fun m => decide (m < V.next)) && V.tmps.all (fun x => x.2.sv.names.all fun m => decide (m < V.next))
theorem GRel.view {ρ : Env} {b : Bd} {base : Nat → Prop} {w0 w : World} {Tm : Nat → Option Ent} {Hp : Nat → Option HEnt} {N : Nat → Prop} {tm : Array Value} {nt : Nat} (h : GRel ρ b base w0 w Tm Hp N tm nt) {V : St} (hT : ∀ t e, find V.tmps t = some e → Tm t = some e) (hH : ∀ n e, find V.heap n = some e → Hp n = some e) (hn : V.nt = nt) (hc : viewChk V = true) :
    Rel ρ b (Fr ρ b base w V) w w V tm := by
  unfold viewChk at hc
  simp only [Bool.and_eq_true, List.all_eq_true, decide_eq_true_eq] at hc
  obtain ⟨c1, c2⟩ := hc
  refine ⟨⟨fun n e hf hg => ?_, fun n m e k hf hk hg hgk ho hok heq => h.inj n m e k (hH n e hf) (hH m k hk) hg hgk ho hok heq⟩, fun t e hf => ?_, Kept.refl _ _, fun k hk => hk.elim (h.base k) (fun x => x.1), h.nt.trans hn.symm, (h.kept.kept h.below).mono fun k hk => .inl hk⟩
  · obtain ⟨m1, m2, m3⟩ := h.mem n e (hH n e hf) hg
    have hm := c1 _ (find_mem hf)
    refine ⟨hm.1, m2.turn (fun ho hF => ?_) (fun ho => .inl (m2.farBase ho)), SV.okL_names _ m3 hm.2⟩
    rcases hF with hF | hF
    · exact (m2.base ho).1 hF
    · exact hF.2 n e hf hg ho rfl
  · obtain ⟨h1, h2⟩ := h.tmps t e (hT t e hf)
    refine ⟨fun hg => ⟨(h1 hg).1, SV.ok_names _ (h1 hg).2 (fun m hm => c2 _ (find_mem hf) m hm)⟩, h2⟩

def Bd.join (b b' : Bd) (lo hi : Nat) : Bd := ⟨fun n => if lo ≤ n ∧ n < hi then b'.β n else b.β n, fun n => if lo ≤ n ∧ n < hi then b'.o n else b.o n, fun n => if lo ≤ n ∧ n < hi then b'.κ n else b.κ n⟩
theorem Bd.join_old {b b' : Bd} {lo hi : Nat} {N : Nat → Prop} (h : ∀ n, N n → ¬ (lo ≤ n ∧ n < hi)) : Agree b (b.join b' lo hi) N := by
  intro n hn
  simp [Bd.join, h n hn]
theorem Bd.join_new {b b' : Bd} {lo hi : Nat} (h : Agree b b' (· < lo)) : Agree b' (b.join b' lo hi) (· < hi) := by
  intro n hn
  unfold Bd.join
  by_cases hl : lo ≤ n
  · have : lo ≤ n ∧ n < hi := ⟨hl, hn⟩
    simp [this]
  · have : ¬ (lo ≤ n ∧ n < hi) := fun hc => hl hc.1
    obtain ⟨h1, h2, h3⟩ := h n (Nat.lt_of_not_le hl)
    simp [this, h1, h2, h3]

theorem GRel.step {ρ : Env} {b b' : Bd} {base : Nat → Prop} {w0 w w' : World} {Tm Tm' : Nat → Option Ent} {Hp Hp' : Nat → Option HEnt} {N N' : Nat → Prop} {a : Act} {nt : Nat} (h : GRel ρ b base w0 w Tm Hp N a.tmps nt)
    {V U : St} (hV : ∀ n e, find V.heap n = some e → Hp n = some e) {dst : Option Tmp} {val : Value} (hag : Agree b b' (· < V.next)) (hr : Rel ρ b' (Fr ρ b base w V) w w' U (a.put dst val).tmps) (hle : V.next ≤ U.next) (hVn : ∀ n e, find V.heap n = some e → n < V.next)
    (hT : ∀ t e, Tm' t = some e → (dst = some t ∧ find U.tmps t = some e ∧ ∀ m ∈ e.sv.names, N' m) ∨ (dst ≠ some t ∧ Tm t = some e))
    (hH : ∀ n e, Hp' n = some e → allB ρ e.g →
      (V.next ≤ n ∧ find U.heap n = some e ∧ e.blk.own = true ∧ ∀ m ∈ SV.namesL e.blk.cells, N' m)
      ∨ (∃ e0 u, find V.heap n = some e0 ∧ allB ρ e0.g ∧ e0.blk.own = true ∧ find U.heap n = some u ∧ allB ρ u.g ∧ u.blk.kind = e0.blk.kind ∧ u.blk.elem = e0.blk.elem ∧ e.blk = u.blk ∧ ∀ m ∈ SV.namesL e.blk.cells, N' m)
      ∨ (Hp n = some e ∧ ∀ e0, find V.heap n = some e0 → e0.blk.own = false))
    (hN1 : ∀ n, N n → N' n) (hN2 : ∀ n, V.next ≤ n → n < U.next → N' n) (hN3 : ∀ n, N n → ¬ (V.next ≤ n ∧ n < U.next)) (hnt : (a.put dst val).tmps.size = a.tmps.size) :
    GRel ρ (b.join b' V.next U.next) base w0 w' Tm' Hp' N' (a.put dst val).tmps nt := by
  have ho : Agree b (b.join b' V.next U.next) N := Bd.join_old hN3
  have hn := Bd.join_new (hi := U.next) hag
  have hlt : ∀ n e, Hp n = some e → allB ρ e.g → b.β n < w.heap.size := fun n e hf hg => (h.mem n e hf hg).2.1.lt h.base
  -- a block that is not seen stays
  have hkeep : ∀ n e, Hp n = some e → allB ρ e.g → (∀ e0, find V.heap n = some e0 → e0.blk.own = false) → Fr ρ b base w V (b.β n) := by
    intro n e hf hg hs
    by_cases hown : e.blk.own = true
    · refine .inr ⟨hlt n e hf hg, fun m k hk hgk hok heq => ?_⟩
      have := h.inj m n k e (hV m k hk) hf hgk hg hok hown heq
      subst this
      rw [hs k hk] at hok
      cases hok
    · exact .inl ((h.mem n e hf hg).2.1.farBase (by simpa using hown))
  -- where a name of the new state lies
  have hcase : ∀ n e, Hp' n = some e → allB ρ e.g → N' n ∧ e.blk.ok ρ (b.join b' V.next U.next) base w' n ∧ SV.okL ρ N' e.blk.cells := by
    intro n e hf hg
    rcases hH n e hf hg with ⟨h1, h2, h3, h4⟩ | ⟨e0, u, h1, h2, h3, h4, h5, h6, h7, h8, h9⟩ | ⟨h1, h2⟩
    · obtain ⟨m1, m2, m3⟩ := hr.heap.mem n e h2 hg
      have hb := m2.base h3
      refine ⟨hN2 n h1 m1, ?_, SV.okL_names _ m3 h4⟩
      have := m2.keep m1 m3 hn rfl
      refine this.turn (fun _ hc => ?_) (fun hc => by rw [h3] at hc; cases hc)
      rw [(hn n m1).1] at hc
      exact hb.1 (.inl hc)
    · obtain ⟨m1, m2, m3⟩ := hr.heap.mem n u h4 h5
      have huo : u.blk.own = true := by simpa [Blk.own, h6] using h3
      have hb := m2.base huo
      have hNn : N n := (h.mem n e0 (hV n e0 h1) h2).1
      rw [h8] at h9 ⊢
      refine ⟨hN1 n hNn, ?_, SV.okL_names _ m3 h9⟩
      have := m2.keep m1 m3 hn rfl
      refine this.turn (fun _ hc => ?_) (fun hc => by rw [huo] at hc; cases hc)
      rw [(hn n m1).1] at hc
      exact hb.1 (.inl hc)
    · obtain ⟨m1, m2, m3⟩ := h.mem n e h1 hg
      exact ⟨hN1 n m1, m2.keep m1 m3 ho (hr.below.block _ (hkeep n e h1 hg h2)), SV.okL_mono hN1 _ m3⟩
  refine ⟨hcase, ?_, ?_, h.below.trans (hr.below.mono fun k hk => .inl hk), fun k hk => Nat.lt_of_lt_of_le (h.base k hk) hr.below.size, hnt.trans h.nt, h.kept⟩
  · -- no two names for one block
    have hseen : ∀ n e, Hp' n = some e → allB ρ e.g → e.blk.own = true → (∃ u, find U.heap n = some u ∧ allB ρ u.g ∧ u.blk.own = true ∧ n < U.next) ∨ (Hp n = some e ∧ ∀ e0, find V.heap n = some e0 → e0.blk.own = false) := by
      intro n e hf hg hoe
      rcases hH n e hf hg with ⟨h1, h2, h3, _⟩ | ⟨e0, u, h1, h2, h3, h4, h5, h6, h7, h8, _⟩ | h1
      · exact .inl ⟨e, h2, hg, h3, (hr.heap.mem n e h2 hg).1⟩
      · exact .inl ⟨u, h4, h5, by simpa [Blk.own, h6] using h3, (hr.heap.mem n u h4 h5).1⟩
      · exact .inr h1
    have hdiff : ∀ n u m e, find U.heap n = some u → allB ρ u.g → u.blk.own = true → n < U.next → Hp m = some e → allB ρ e.g → (∀ e0, find V.heap m = some e0 → e0.blk.own = false) → (b.join b' V.next U.next).β n ≠ (b.join b' V.next U.next).β m := by
      intro n u m e hu hgu hou hnu hm hgm hs heq
      have hb := (hr.heap.mem n u hu hgu).2.1.base hou
      rw [(hn n hnu).1, (ho m (h.mem m e hm hgm).1).1] at heq
      exact hb.1 (heq ▸ hkeep m e hm hgm hs)
    intro n m e k hf hk hg hgk hoe hok heq
    rcases hseen n e hf hg hoe with ⟨u, u1, u2, u3, u4⟩ | ⟨p1, p2⟩
    · rcases hseen m k hk hgk hok with ⟨v, v1, v2, v3, v4⟩ | ⟨q1, q2⟩
      · rw [(hn n u4).1, (hn m v4).1] at heq
        exact hr.heap.inj n m u v u1 v1 u2 v2 u3 v3 heq
      · exact absurd heq (hdiff n u m k u1 u2 u3 u4 q1 hgk q2)
    · rcases hseen m k hk hgk hok with ⟨v, v1, v2, v3, v4⟩ | ⟨q1, q2⟩
      · exact absurd heq.symm (hdiff m v n e v1 v2 v3 v4 p1 hg p2)
      · rw [(ho n (h.mem n e p1 hg).1).1, (ho m (h.mem m k q1 hgk).1).1] at heq
        exact h.inj n m e k p1 q1 hg hgk hoe hok heq
  · intro t e hf
    rcases hT t e hf with ⟨h1, h2, h3⟩ | ⟨h1, h2⟩
    · obtain ⟨t1, t2⟩ := hr.tmps t e h2
      refine ⟨fun hg => ?_, t2⟩
      obtain ⟨t3, t4⟩ := t1 hg
      exact ⟨by rw [SV.den_agree hn _ t4]; exact t3, SV.ok_names _ t4 h3⟩
    · have hsame : (a.put dst val).tmps[t]? = a.tmps[t]? := by
        cases dst with
        | none => rfl
        | some d =>
          simp only [Act.put]
          rw [Array.getElem?_setIfInBounds_ne (fun hc => h1 (by rw [hc]))]
      obtain ⟨t1, t2⟩ := h.tmps t e h2
      refine ⟨fun hg => ?_, fun hg => by rw [hsame]; exact t2 hg⟩
      obtain ⟨t3, t4⟩ := t1 hg
      exact ⟨by rw [hsame, SV.den_agree ho _ t4]; exact t3, SV.ok_mono hN1 _ t4⟩
end Go.Proofs.Ytdfpenjhpemokaa.Sx
/-
  A verified symbolic executor, part 20: regions whose order is drawn: the canonical run, and its parts.
-/
namespace Go.Proofs.Ytdfpenjhpemokaa.Sx
open Go.RowKit (Below)

def L (N : Nat) (p : Nat → Bool) : List Nat := (List.range N).filter p
theorem L_mem {N : Nat} {p : Nat → Bool} {j : Nat} : j ∈ L N p ↔ j < N ∧ p j = true := by simp [L]
theorem L_cons (N : Nat) (p : Nat → Bool) : L (N + 1) p = L N p ++ if p N then [N] else [] := by
  simp [L, List.range_succ, List.filter_append, List.filter_cons]

theorem lastW_app (a c : List (Nat × List SV)) (n : Nat) : lastW (a ++ c) n = match lastW c n with | some x => some x | none => lastW a n := by
  induction a with
  | nil => simp only [List.nil_append, lastW]; cases lastW c n <;> rfl
  | cons x a ih =>
    obtain ⟨m, y⟩ := x
    simp only [List.cons_append, lastW, ih]
    cases lastW c n <;> rfl
theorem lastW_none {l : List (Nat × List SV)} {n : Nat} (h : ∀ c, (n, c) ∉ l) : lastW l n = none := by
  induction l with
  | nil => rfl
  | cons x l ih =>
    obtain ⟨m, y⟩ := x
    simp only [lastW, ih (fun c hc => h c (.tail _ hc))]
    split
    · rename_i hm; subst hm; exact absurd (.head _) (h y)
    · rfl
theorem lastW_some {l : List (Nat × List SV)} {n : Nat} {c : List SV} (h : lastW l n = some c) : (n, c) ∈ l := by
  induction l with
  | nil => cases h
  | cons x l ih =>
    obtain ⟨m, y⟩ := x
    simp only [lastW] at h
    split at h
    · rename_i d hd; cases h; exact .tail _ (ih hd)
    · split at h
      · rename_i hm; cases h; subst hm; exact .head _
      · cases h
theorem lastW_has {l : List (Nat × List SV)} {n : Nat} {c : List SV} (h : (n, c) ∈ l) : ∃ d, lastW l n = some d := by
  induction l with
  | nil => cases h
  | cons x l ih =>
    obtain ⟨m, y⟩ := x
    simp only [lastW]
    cases h with
    | head => cases lastW l n <;> simp
    | tail _ h => obtain ⟨d, hd⟩ := ih h; exact ⟨d, by rw [hd]⟩
theorem wrsAt_some {r : RS} {j : Nat} {x : OR} (h : r j = some x) : wrsAt r j = wrote x := by unfold wrsAt; rw [h]
theorem wrsAt_none {r : RS} {j : Nat} (h : r j = none) : wrsAt r j = [] := by unfold wrsAt; rw [h]
theorem wrsOf_mem {r : RS} {l : List Nat} {n : Nat} {c : List SV} (h : (n, c) ∈ wrsOf r l) : ∃ j ∈ l, ∃ x, r j = some x ∧ (n, c) ∈ wrote x := by
  unfold wrsOf at h
  rw [List.mem_flatMap] at h
  obtain ⟨j, hj, hm⟩ := h
  cases hr : r j with
  | none => rw [wrsAt_none hr] at hm; cases hm
  | some x => rw [wrsAt_some hr] at hm; exact ⟨j, hj, x, hr, hm⟩
theorem wrote_mem {x : OR} {n : Nat} {c : List SV} (h : (n, c) ∈ wrote x) : ∃ e u, find x.V.heap n = some e ∧ find x.U.heap n = some u ∧ e.blk.own = true ∧ c = u.blk.cells := by
  unfold wrote at h
  rw [List.mem_filterMap] at h
  obtain ⟨y, _, hy⟩ := h
  split at hy
  · rename_i e u h1 h2
    split at hy
    · rename_i hc
      cases hy
      simp only [Bool.and_eq_true] at hc
      exact ⟨e, u, h1, h2, hc.1, rfl⟩
    · cases hy
  · cases hy
theorem lastW_part {r : RS} {n : Nat} {p q : Nat → Bool} : ∀ N, (∀ j, j < N → q j = true → p j = true) → (∀ j, j < N → p j = true → q j = false → ∀ x, r j = some x → ∀ c, (n, c) ∉ wrote x) → lastW (wrsOf r (L N p)) n = lastW (wrsOf r (L N q)) n := by
  intro N
  induction N with
  | zero => intro _ _; rfl
  | succ N ih =>
    intro h1 h2
    have ih' := ih (fun j hj => h1 j (by omega)) (fun j hj => h2 j (by omega))
    rw [L_cons, L_cons]
    unfold wrsOf at ih' ⊢
    rw [List.flatMap_append, List.flatMap_append, lastW_app, lastW_app, ih']
    cases hp : p N with
    | false =>
      cases hq : q N with
      | false => rfl
      | true => rw [h1 N (by omega) hq] at hp; cases hp
    | true =>
      cases hq : q N with
      | true => rfl
      | false =>
        have : lastW (List.flatMap (wrsAt r) (if true = true then [N] else [])) n = none := by
          refine lastW_none fun c hc => ?_
          simp only [if_true, List.flatMap_cons, List.flatMap_nil, List.append_nil] at hc
          cases hr : r N with
          | none => rw [wrsAt_none hr] at hc; cases hc
          | some x => rw [wrsAt_some hr] at hc; exact h2 N (by omega) hp hq x hr c hc
        rw [this]
        simp [lastW]
theorem lastW_at {r : RS} {n i : Nat} {p : Nat → Bool} {x : OR} (hx : r i = some x) : ∀ N, i < N → p i = true → (∀ j, j < N → i < j → p j = true → ∀ y, r j = some y → ∀ c, (n, c) ∉ wrote y) → (∃ c, (n, c) ∈ wrote x) → lastW (wrsOf r (L N p)) n = lastW (wrote x) n := by
  intro N
  induction N with
  | zero => intro h; omega
  | succ N ih =>
    intro hi hp h2 hc
    rw [L_cons]
    unfold wrsOf at ih ⊢
    rw [List.flatMap_append, lastW_app]
    by_cases he : i = N
    · subst he
      rw [hp]
      simp only [if_true, List.flatMap_cons, List.flatMap_nil, List.append_nil, wrsAt_some hx]
      obtain ⟨c, hc⟩ := hc
      obtain ⟨d, hd⟩ := lastW_has hc
      rw [hd]
    · have : lastW (List.flatMap (wrsAt r) (if p N = true then [N] else [])) n = none := by
        refine lastW_none fun c hc => ?_
        split at hc
        · rename_i hpN
          simp only [List.flatMap_cons, List.flatMap_nil, List.append_nil] at hc
          cases hr : r N with
          | none => rw [wrsAt_none hr] at hc; cases hc
          | some y => rw [wrsAt_some hr] at hc; exact h2 N (by omega) (by omega) hpN y hr c hc
        · cases hc
      rw [this]
      exact ih (by omega) hp (fun j hj => h2 j (by omega)) hc

theorem news_mem {x : OR} {n : Nat} {e : HEnt} (h : find (news x) n = some e) : x.V.next ≤ n ∧ n < x.U.next ∧ e.blk.own = true ∧ find x.U.heap n = some e := by
  obtain ⟨y, h1, h2⟩ := restrict_mem (find_mem h)
  split at h2
  · rename_i hc
    cases h2
    simp only [Bool.and_eq_true, decide_eq_true_eq] at hc
    exact ⟨hc.1.1, hc.1.2, hc.2, h1⟩
  · cases h2
theorem baseE_cases {r : RS} {S : St} {n : Nat} {e : HEnt} : ∀ {l : List Nat}, baseE r S l n = some e → (∃ j ∈ l, ∃ x, r j = some x ∧ find (news x) n = some e) ∨ find S.heap n = some e := by
  intro l
  induction l with
  | nil => intro h; exact .inr h
  | cons j l ih =>
    intro h
    simp only [baseE] at h
    split at h
    · rename_i e' he
      cases h
      rw [Option.bind_eq_some_iff] at he
      obtain ⟨x, hx, hf⟩ := he
      exact .inl ⟨j, .head _, x, hx, hf⟩
    · rcases ih h with ⟨k, hk, x, hx⟩ | h
      · exact .inl ⟨k, .tail _ hk, x, hx⟩
      · exact .inr h
theorem baseE_new {r : RS} {S : St} {n : Nat} {e : HEnt} {j : Nat} {x : OR} (hx : r j = some x) (hf : find (news x) n = some e) : ∀ {l : List Nat}, j ∈ l → (∀ k ∈ l, k ≠ j → ∀ y, r k = some y → find (news y) n = none) → baseE r S l n = some e := by
  intro l
  induction l with
  | nil => intro h; cases h
  | cons k l ih =>
    intro hj hu
    simp only [baseE]
    by_cases hk : k = j
    · subst hk
      rw [hx]
      simp only [Option.bind_some, hf]
    · have hn : ((r k).bind fun x => find (news x) n) = none := by
        cases hr : r k with
        | none => rfl
        | some y => simp only [Option.bind_some]; exact hu k (.head _) hk y hr
      rw [hn]
      refine ih ?_ (fun m hm => hu m (.tail _ hm))
      cases hj with
      | head => exact absurd rfl hk
      | tail _ h => exact h
theorem baseE_old {r : RS} {S : St} {n : Nat} : ∀ {l : List Nat}, (∀ k ∈ l, ∀ y, r k = some y → find (news y) n = none) → baseE r S l n = find S.heap n := by
  intro l
  induction l with
  | nil => intro _; rfl
  | cons k l ih =>
    intro hu
    simp only [baseE]
    have hn : ((r k).bind fun x => find (news x) n) = none := by
      cases hr : r k with
      | none => rfl
      | some y => simp only [Option.bind_some]; exact hu k (.head _) y hr
    rw [hn]
    exact ih (fun m hm => hu m (.tail _ hm))
theorem flatMap_same {α β : Type} {f g : α → List β} : ∀ {l : List α}, (∀ j ∈ l, f j = g j) → l.flatMap f = l.flatMap g := by
  intro l
  induction l with
  | nil => intro _; rfl
  | cons a l ih =>
    intro h
    rw [List.flatMap_cons, List.flatMap_cons, h a (.head _), ih (fun j hj => h j (.tail _ hj))]
theorem viewOf_congr {r r' : RS} {ops : List Oper} {S : St} {l : List Nat} (h : ∀ j ∈ l, r j = r' j) (hide hideT : Nat → Bool) (kt kh : List Nat) (G : List E) (lo : Nat) : viewOf r ops S l hide hideT kt kh G lo = viewOf r' ops S l hide hideT kt kh G lo := by
  have hw : wrsOf r l = wrsOf r' l := by
    unfold wrsOf
    exact flatMap_same fun j hj => by unfold wrsAt; rw [h j hj]
  have hb : ∀ n, baseE r S l n = baseE r' S l n := by
    intro n
    clear hw
    induction l with
    | nil => rfl
    | cons k l ih =>
      simp only [baseE]
      rw [h k (.head _), ih (fun j hj => h j (.tail _ hj))]
  have he : ∀ n, entL r S l n = entL r' S l n := by
    intro n
    unfold entL applyW
    rw [hb, hw]
  have ht : ∀ t, tmpL r ops S l t = tmpL r' ops S l t := by
    intro t
    unfold tmpL
    split
    · split
      · rename_i j _ hc
        rw [h j (by simpa using hc)]
      · rfl
    · rfl
  unfold viewOf
  congr 1
  · congr 1; funext t; rw [ht]
  · congr 1; funext n; rw [he]
end Go.Proofs.Ytdfpenjhpemokaa.Sx
/-
  A verified symbolic executor, part 21: regions whose order is drawn: the run.
-/
namespace Go.Proofs.Ytdfpenjhpemokaa.Sx
open Go.RowKit (Below)

def before (bl : List Nat) (i j : Nat) : Bool := Nat.testBit (bl[i]?.getD 0) j
def hidden (bl : List Nat) (tg : List (List Nat)) (N i n : Nat) : Bool := (List.range N).any fun j => !(j == i) && (tg[j]?.getD []).contains n && !(before bl i j) && !(before bl j i)
def hiddenT (ops : List Oper) (bl : List Nat) (i t : Nat) : Bool := match ownT ops t with
  | some j => !(j == i) && !(before bl i j) && !(before bl j i)
  | none => false
def inRange (r : RS) (S : St) (l : List Nat) (n : Nat) : Bool := decide (n < S.next) || l.any fun j => match r j with
  | some x => decide (x.V.next ≤ n) && decide (n < x.U.next)
  | none => false
def sameEs : List E → List E → Bool
  | [], [] => true
  | a :: l, c :: m => a.same c && sameEs l m
  | _, _ => false
theorem sameEs_eq : ∀ {l m : List E}, sameEs l m = true → l = m := by
  intro l
  induction l with
  | nil => intro m h; cases m <;> simp [sameEs] at h; rfl
  | cons a l ih => intro m h; cases m <;> simp [sameEs] at h; rw [E.same_eq h.1, ih h.2]
def okStep (r : RS) (S : St) (l : List Nat) (tgi : List Nat) (strict : Bool) (x : OR) (dst : Option Tmp) : Bool :=
  let al := fun n => inRange r S l n || (decide (x.V.next ≤ n) && decide (n < x.U.next))
  decide (x.V.next ≤ x.U.next) &&
  x.V.heap.all (fun y => match find x.V.heap y.1 with
    | some e => !e.blk.own || (match find x.U.heap y.1 with
      | some u => sameEs u.g e.g && decide (u.blk.kind = e.blk.kind) && decide (u.blk.elem = e.blk.elem) && (SV.namesL u.blk.cells).all al
      | none => false)
    | none => true) &&
  (match dst with
    | some d => match find x.U.tmps d with
      | some e => e.sv.names.all al
      | none => true
    | none => true) &&
  (news x).all (fun y => (SV.namesL y.2.blk.cells).all al) &&
  (!strict || (wrote x).all (fun y => tgi.contains y.1))
def lastNext (S : St) (acc : List OR) : Nat := match acc.getLast? with
  | some x => x.U.next
  | none => S.next
def guardFor (ops : Array Oper) (V : St) (o : Oper) : List E := match guardOf ops V o with
  | some (some G) => G
  | _ => []
def opTmps (ops : Array Oper) (o : Oper) : List Nat :=
  (match o.guard with
    | some (j, _) => ((ops[j]?).bind (·.dst)).toList
    | none => []) ++ o.op.operands.toList.filterMap fun
      | .tmp t => some t
      | _ => none
def dedup : List Nat → List Nat → List Nat
  | [], acc => acc
  | n :: l, acc => dedup l (if acc.any (Nat.beq n) then acc else n :: acc)
def isCall (o : Oper) : Bool := match o.op with
  | .call c => (match c.callee with
    | .builtin _ => false
    | _ => true)
  | _ => false
def keysFor (r : RS) (S : St) (l : List Nat) (o : Oper) (nms : List Nat) : List Nat :=
  if isCall o then reach ((keysH r S l).filterMap fun n => (entL r S l n).map fun e => (n, e)) 1000 nms [] else dedup nms []
def viewAt (r : RS) (ops : Array Oper) (S : St) (l : List Nat) (hide hideT : Nat → Bool) (lo : Nat) (o : Oper) : St :=
  let V0 := viewOf r ops.toList S l hide hideT (opTmps ops o) [] [] lo
  viewOf r ops.toList S l hide hideT (opTmps ops o) (keysFor r S l o (V0.tmps.flatMap fun x => x.2.sv.names)) (guardFor ops V0 o) lo
def drawOne (P : Program) (et : TypeId) (h : Handler) (pc : List E) (ops : Array Oper) (S : St) (bl : List Nat) (tg : List (List Nat)) (N : Nat) (strict : Bool) (acc : List OR) (o : Oper) : Option (OR × List VC) :=
  let V := viewAt (fun j => acc[j]?) ops S (L N (before bl acc.length)) (hidden bl tg N acc.length) (hiddenT ops.toList bl acc.length) (lastNext S acc) o
  if viewChk V then
    match stepOp P et h pc ops V o with
    | some (.leaf U, vs) => if okStep (fun j => acc[j]?) S (L N (before bl acc.length)) (tg[acc.length]?.getD []) strict ⟨V, U⟩ o.dst then some (⟨V, U⟩, vs) else none
    | _ => none
  else none
def drawL (P : Program) (et : TypeId) (h : Handler) (pc : List E) (ops : Array Oper) (S : St) (bl : List Nat) (tg : List (List Nat)) (N : Nat) (strict : Bool) : List Oper → List OR → Option (List OR × List VC)
  | [], acc => some (acc, [])
  | o :: rest, acc =>
    match drawOne P et h pc ops S bl tg N strict acc o with
    | some (x, vs) => match drawL P et h pc ops S bl tg N strict rest (acc ++ [x]) with
      | some (rs, vs') => some (rs, vs ++ vs')
      | none => none
    | none => none
structure Fact (P : Program) (et : TypeId) (h : Handler) (pc : List E) (ops : Array Oper) (S : St) (bl : List Nat) (tg : List (List Nat)) (N : Nat) (pre : List OR) (o : Oper) (x : OR) (vs : List VC) : Prop where
  view : ∃ kt kh G, x.V = viewOf (fun j => pre[j]?) ops.toList S (L N (before bl pre.length)) (hidden bl tg N pre.length) (hiddenT ops.toList bl pre.length) kt kh G (lastNext S pre)
  chk : viewChk x.V = true
  step : stepOp P et h pc ops x.V o = some (.leaf x.U, vs)
  ok : okStep (fun j => pre[j]?) S (L N (before bl pre.length)) (tg[pre.length]?.getD []) true x o.dst = true
theorem drawOne_fact {P : Program} {et : TypeId} {h : Handler} {pc : List E} {ops : Array Oper} {S : St} {bl : List Nat} {tg : List (List Nat)} {N : Nat} {pre : List OR} {o : Oper} {x : OR} {vs : List VC} (hd : drawOne P et h pc ops S bl tg N true pre o = some (x, vs)) : Fact P et h pc ops S bl tg N pre o x vs := by
  unfold drawOne at hd
  dsimp only at hd
  split at hd
  · rename_i hchk
    split at hd
    · rename_i U vs1 hstep
      split at hd
      · rename_i hok
        cases hd
        exact ⟨⟨_, _, _, rfl⟩, hchk, hstep, hok⟩
      · cases hd
    · cases hd
  · cases hd
theorem drawL_facts {P : Program} {et : TypeId} {h : Handler} {pc : List E} {ops : Array Oper} {S : St} {bl : List Nat} {tg : List (List Nat)} {N : Nat} : ∀ {rest : List Oper} {acc rs : List OR} {vs : List VC}, drawL P et h pc ops S bl tg N true rest acc = some (rs, vs) →
    rs.length = acc.length + rest.length ∧ rs.take acc.length = acc ∧ ∀ k o, rest[k]? = some o → ∃ x vs', rs[acc.length + k]? = some x ∧ Fact P et h pc ops S bl tg N (rs.take (acc.length + k)) o x vs' ∧ ∀ v ∈ vs', v ∈ vs := by
  intro rest
  induction rest with
  | nil => intro acc rs vs hs; cases hs; exact ⟨rfl, by simp, fun k o h => by simp at h⟩
  | cons o rest ih =>
    intro acc rs vs hs
    simp only [drawL] at hs
    split at hs
    · rename_i x1 vs1 hone
      split at hs
      · rename_i rs' vs2 hd
        cases hs
        obtain ⟨h1, h2, h3⟩ := ih hd
        simp only [List.length_append, List.length_cons, List.length_nil, Nat.zero_add] at h1 h2 h3
        have hpre : rs.take acc.length = acc := by
          have := congrArg (List.take acc.length) h2
          rw [List.take_take] at this
          simpa using this
        refine ⟨by simp only [List.length_cons]; omega, hpre, fun k o' hk => ?_⟩
        cases k with
        | zero =>
          simp only [List.getElem?_cons_zero, Option.some.injEq] at hk
          subst hk
          refine ⟨x1, vs1, ?_, by rw [Nat.add_zero, hpre]; exact drawOne_fact hone, fun v hv => List.mem_append.2 (.inl hv)⟩
          have := congrArg (fun l => l[acc.length]?) h2
          simp only [List.getElem?_take] at this
          rw [if_pos (by omega)] at this
          rw [Nat.add_zero, this]
          simp
        | succ k =>
          obtain ⟨x, vs', a1, a2, a3⟩ := h3 k o' (by simpa using hk)
          refine ⟨x, vs', by rw [← a1]; congr 1; omega, ?_, fun v hv => List.mem_append.2 (.inr (a3 v hv))⟩
          have e : acc.length + (k + 1) = acc.length + 1 + k := by omega
          rw [e]; exact a2
      · cases hs
    · cases hs
def drawChk (P : Program) (ops : Array Oper) (S : St) (bl : List Nat) : Bool :=
  P.follows .mixedOrders &&
  (List.range ops.size).all (fun i => match ops[i]? with
    | some o => (edgesOf o).all (fun j => decide (j < i)) && decide ((bl[i]?.getD 0) < 2 ^ i) && (List.range i).all (fun j => !before bl i j || (edgesOf o).any fun e => Nat.beq e j || before bl e j) && (match o.dst with
      | some t => decide (ownT ops.toList t = some i)
      | none => true)
    | none => false) &&
  S.heap.all (fun x => decide (x.1 < S.next))
def isW (o : Oper) : Bool := match o.op with
  | .call c => (match c.callee with
    | .builtin .append => true
    | .builtin .copy => true
    | .builtin _ => false
    | _ => true)
  | .store .. => true
  | _ => false
def runDraw (P : Program) (et : TypeId) (h : Handler) (ops : Array Oper) (pc : List E) (S : St) : Option (T St × List VC) :=
  let bl := befs ops.toList []
  let N := ops.size
  if drawChk P ops S bl then
    let r := if ops.toList.any (fun o => isW o) then
        match drawL P et h pc ops S bl [] N false ops.toList [] with
        | some (rs, _) => let tg : List (List Nat) := List.map (fun (x : OR) => (wrote x).map Prod.fst) rs
          (drawL P et h pc ops S bl tg N true ops.toList []).map fun x => (tg, x)
        | none => none
      else (drawL P et h pc ops S bl [] N true ops.toList []).map fun x => ([], x)
    match r with
    | some (_, rs, vs) => some (.leaf (viewOf (fun j => rs[j]?) ops.toList S (L N fun _ => true) (fun _ => false) (fun _ => false) (keysT ops.toList S) (keysH (fun j => rs[j]?) S (L N fun _ => true)) [] (lastNext S rs)), vs)
    | none => none
  else none
end Go.Proofs.Ytdfpenjhpemokaa.Sx
/-
  A verified symbolic executor, part 22: regions whose order is drawn: why every order gives the same.
-/
namespace Go.Proofs.Ytdfpenjhpemokaa.Sx
open Go.RowKit (Below)

structure Ctx (P : Program) (et : TypeId) (h : Handler) (pc : List E) (ops : Array Oper) (S : St) (bl : List Nat) (tg : List (List Nat)) (r : RS) (vs : List VC) : Prop where
  all : ∀ i, i < ops.size → ∃ o x vi, ops[i]? = some o ∧ r i = some x ∧ (∃ kt kh G, x.V = viewOf r ops.toList S (L ops.size (before bl i)) (hidden bl tg ops.size i) (hiddenT ops.toList bl i) kt kh G x.V.next) ∧ viewChk x.V = true ∧ stepOp P et h pc ops x.V o = some (.leaf x.U, vi) ∧ okStep r S (L ops.size (before bl i)) (tg[i]?.getD []) true x o.dst = true ∧ ∀ v ∈ vi, v ∈ vs
  mono : ∀ j i x y, j < i → r j = some x → r i = some y → x.U.next ≤ y.V.next
  low : ∀ i x, r i = some x → S.next ≤ x.V.next ∧ x.V.next ≤ x.U.next
  edge : ∀ i o, ops[i]? = some o → (∀ j ∈ edgesOf o, j < i) ∧ (∀ j, before bl i j = true → j < i ∧ ∃ e ∈ edgesOf o, e = j ∨ before bl e j = true) ∧ (∀ t, o.dst = some t → ownT ops.toList t = some i)
  heap : ∀ n e, find S.heap n = some e → n < S.next

section
variable {P : Program} {et : TypeId} {h : Handler} {pc : List E} {ops : Array Oper} {S : St} {bl : List Nat} {tg : List (List Nat)} {r : RS} {vs : List VC}

theorem Ctx.range (c : Ctx P et h pc ops S bl tg r vs) {i : Nat} {x : OR} (hi : i < ops.size) (hx : r i = some x) {ρ : Env} {n : Nat} {e : HEnt} (hf : find (news x) n = some e) : x.V.next ≤ n := (news_mem hf).1

def NS (S : St) (r : RS) (D : Nat → Bool) (N : Nat) (n : Nat) : Prop := n < S.next ∨ ∃ j, j < N ∧ D j = true ∧ ∃ x, r j = some x ∧ x.V.next ≤ n ∧ n < x.U.next
def Closed (bl : List Nat) (N : Nat) (D : Nat → Bool) : Prop := ∀ i, i < N → D i = true → ∀ j, before bl i j = true → D j = true
theorem inRange_ok {l : List Nat} {n : Nat} (hn : inRange r S l n = true) : n < S.next ∨ ∃ j ∈ l, ∃ x, r j = some x ∧ x.V.next ≤ n ∧ n < x.U.next := by
  unfold inRange at hn
  simp only [Bool.or_eq_true, decide_eq_true_eq, List.any_eq_true] at hn
  rcases hn with hn | ⟨j, hj, hn⟩
  · exact .inl hn
  · split at hn
    · rename_i x hx
      simp only [Bool.and_eq_true, decide_eq_true_eq] at hn
      exact .inr ⟨j, hj, x, hx, hn⟩
    · cases hn
structure StepOk (r : RS) (S : St) (l : List Nat) (tgi : List Nat) (x : OR) (dst : Option Tmp) : Prop where
  le : x.V.next ≤ x.U.next
  seen : ∀ n e, find x.V.heap n = some e → e.blk.own = true → ∃ u, find x.U.heap n = some u ∧ u.g = e.g ∧ u.blk.kind = e.blk.kind ∧ u.blk.elem = e.blk.elem ∧ ∀ m ∈ SV.namesL u.blk.cells, inRange r S l m = true ∨ (x.V.next ≤ m ∧ m < x.U.next)
  dst : ∀ d e, dst = some d → find x.U.tmps d = some e → ∀ m ∈ e.sv.names, inRange r S l m = true ∨ (x.V.next ≤ m ∧ m < x.U.next)
  news : ∀ n e, find (news x) n = some e → ∀ m ∈ SV.namesL e.blk.cells, inRange r S l m = true ∨ (x.V.next ≤ m ∧ m < x.U.next)
  wrote : ∀ n cs, (n, cs) ∈ wrote x → n ∈ tgi
theorem okStep_ok {l : List Nat} {tgi : List Nat} {x : OR} {dst : Option Tmp} (hk : okStep r S l tgi true x dst = true) : StepOk r S l tgi x dst := by
  unfold okStep at hk
  simp only [Bool.and_eq_true, decide_eq_true_eq, List.all_eq_true, Bool.not_true, Bool.false_or, Bool.or_eq_true] at hk
  obtain ⟨⟨⟨⟨k1, k2⟩, k3⟩, k4⟩, k5⟩ := hk
  refine ⟨k1, fun n e hf ho => ?_, fun d e hd hf m hm => ?_, fun n e hf m hm => k4 _ (find_mem hf) m hm, fun n cs hm => by simpa using k5 _ hm⟩
  · have := k2 _ (find_mem hf)
    rw [hf] at this
    dsimp only at this
    rw [Bool.or_eq_true] at this
    rcases this with h1 | h1
    · rw [ho] at h1; simp at h1
    · split at h1
      · rename_i u hu
        simp only [Bool.and_eq_true, decide_eq_true_eq, List.all_eq_true, Bool.or_eq_true] at h1
        exact ⟨u, hu, sameEs_eq h1.1.1.1, h1.1.1.2, h1.1.2, h1.2⟩
      · cases h1
  · subst hd
    simp only [hf, List.all_eq_true, Bool.or_eq_true, Bool.and_eq_true, decide_eq_true_eq] at k3
    exact k3 m hm
theorem hidden_not {N i n j : Nat} (hh : hidden bl tg N i n = false) (hj : j < N) (hne : j ≠ i) (ht : n ∈ tg[j]?.getD []) : before bl i j = true ∨ before bl j i = true := by
  unfold hidden at hh
  rw [List.any_eq_false] at hh
  have := hh j (by simpa using hj)
  simp only [Bool.and_eq_true, Bool.not_eq_true', beq_eq_false_iff_ne, not_and, Bool.not_eq_true, Bool.not_eq_false] at this
  by_cases hb : before bl i j = true
  · exact .inl hb
  · exact .inr (this ⟨⟨hne, by simpa using ht⟩, by simpa using hb⟩)

theorem Ctx.seen (c : Ctx P et h pc ops S bl tg r vs) {j : Nat} (hj : j < ops.size) {x : OR} (hx : r j = some x) {n : Nat} {e : HEnt} (hf : find x.V.heap n = some e) :
    entL r S (L ops.size (before bl j)) n = some e ∧ hidden bl tg ops.size j n = false ∧ n < x.V.next ∧ (n < S.next ∨ ∃ k, k < ops.size ∧ before bl j k = true ∧ ∃ y, r k = some y ∧ y.V.next ≤ n ∧ n < y.U.next) := by
  obtain ⟨o, x', vi, ho, hx', ⟨kt, kh, G, hV⟩, hchk, hst, hok, hvs⟩ := c.all j hj
  rw [hx] at hx'
  cases hx'
  have hchk' := hchk
  unfold viewChk at hchk'
  simp only [Bool.and_eq_true, List.all_eq_true, decide_eq_true_eq] at hchk'
  have hn := (hchk'.1 _ (find_mem hf)).1
  have hf2 := hf
  rw [hV] at hf2
  obtain ⟨h1, h2, h3⟩ := viewOf_heap hf2
  refine ⟨h1, h2, hn, ?_⟩
  unfold entL at h1
  rw [Option.map_eq_some_iff] at h1
  obtain ⟨e0, he0, _⟩ := h1
  rcases baseE_cases he0 with ⟨k, hk, y, hy, hfy⟩ | hs
  · rw [L_mem] at hk
    have hbl := ((c.edge j o ho).2.1 k hk.2).1
    have h4 := (news_mem hfy).1
    have this := (news_mem hfy).2.1
    exact .inr ⟨k, hk.1, hk.2, y, hy, h4, this⟩
  · exact .inl (c.heap n e0 hs)

theorem Ctx.uniq (c : Ctx P et h pc ops S bl tg r vs) {j k : Nat} {x y : OR} {n : Nat} (hx : r j = some x) (hy : r k = some y) (h1 : x.V.next ≤ n) (h2 : n < x.U.next) (h3 : y.V.next ≤ n) (h4 : n < y.U.next) : j = k := by
  rcases Nat.lt_trichotomy j k with hl | he | hl
  · have := c.mono j k x y hl hx hy; omega
  · exact he
  · have := c.mono k j y x hl hy hx; omega
theorem Ctx.base_new (c : Ctx P et h pc ops S bl tg r vs) {l : List Nat} {j : Nat} {x : OR} {n : Nat} {e : HEnt} (hj : j ∈ l) (hx : r j = some x) (hf : find (news x) n = some e) : baseE r S l n = some e :=
  baseE_new hx hf hj fun k _ hk y hy => by
    cases hq : find (news y) n with
    | none => rfl
    | some e' =>
      have a := news_mem hf
      have b := news_mem hq
      exact absurd (c.uniq hy hx b.1 b.2.1 a.1 a.2.1) hk
theorem Ctx.base_old (c : Ctx P et h pc ops S bl tg r vs) {l : List Nat} {n : Nat} (hn : n < S.next) : baseE r S l n = find S.heap n :=
  baseE_old fun k _ y hy => by
    cases hq : find (news y) n with
    | none => rfl
    | some e' => have := (news_mem hq).1; have := (c.low k y hy).1; omega
theorem Ctx.wroteTg (c : Ctx P et h pc ops S bl tg r vs) {j : Nat} (hj : j < ops.size) {x : OR} (hx : r j = some x) {n : Nat} {cs : List SV} (hw : (n, cs) ∈ wrote x) : n ∈ tg[j]?.getD [] := by
  obtain ⟨o, x', vi, ho, hx', _, _, _, hok, _⟩ := c.all j hj
  rw [hx] at hx'
  cases hx'
  exact (okStep_ok hok).wrote n cs hw
theorem applyW_eq {l m : List Nat} {n : Nat} (hl : lastW (wrsOf r l) n = lastW (wrsOf r m) n) (e : HEnt) : applyW r l n e = applyW r m n e := by unfold applyW; rw [hl]
theorem Ctx.writers (c : Ctx P et h pc ops S bl tg r vs) {D : Nat → Bool} (hcl : Closed bl ops.size D) {i : Nat} (hi : i < ops.size) (hD : D i = false) {n : Nat} (hh : hidden bl tg ops.size i n = false) {j : Nat} (hj : j < ops.size) (hDj : D j = true) {x : OR} (hx : r j = some x) {cs : List SV} (hw : (n, cs) ∈ wrote x) : before bl i j = true := by
  rcases hidden_not hh hj (fun e => by subst e; rw [hD] at hDj; cases hDj) (c.wroteTg hj hx hw) with hb | hb
  · exact hb
  · have := hcl j hj hDj i hb
    rw [hD] at this; cases this
theorem Ctx.view_heap (c : Ctx P et h pc ops S bl tg r vs) {D : Nat → Bool} (hcl : Closed bl ops.size D) {i : Nat} (hi : i < ops.size) (hD : D i = false) (hb : ∀ j, before bl i j = true → D j = true) {x : OR} (hx : r i = some x) {n : Nat} {e : HEnt} (hf : find x.V.heap n = some e) : entL r S (L ops.size D) n = some e := by
  obtain ⟨h1, h2, h3, h4⟩ := c.seen hi hx hf
  unfold entL at h1 ⊢
  rw [Option.map_eq_some_iff] at h1 ⊢
  obtain ⟨e0, he0, hae⟩ := h1
  refine ⟨e0, ?_, ?_⟩
  · rcases baseE_cases he0 with ⟨k, hk, y, hy, hfy⟩ | hs
    · rw [L_mem] at hk
      exact c.base_new (L_mem.2 ⟨hk.1, hb k hk.2⟩) hy hfy
    · rw [c.base_old (c.heap n e0 hs)]; exact hs
  · rw [← hae]
    refine applyW_eq (lastW_part _ (fun j hj hq => hb j hq) (fun j hj hDj hq y hy cs hw => ?_)) e0
    rw [c.writers hcl hi hD h2 hj hDj hy hw] at hq
    cases hq
theorem Ctx.view_tmps (c : Ctx P et h pc ops S bl tg r vs) {D : Nat → Bool} (hcl : Closed bl ops.size D) {i : Nat} (hi : i < ops.size) (hD : D i = false) (hb : ∀ j, before bl i j = true → D j = true) {x : OR} (hx : r i = some x) {t : Nat} {e : Ent} (hf : find x.V.tmps t = some e) : tmpL r ops.toList S (L ops.size D) t = some e := by
  obtain ⟨o, x', vi, ho, hx', ⟨kt, kh, G, hV⟩, _, _, _, _⟩ := c.all i hi
  rw [hx] at hx'
  cases hx'
  rw [hV] at hf
  obtain ⟨this, hhid⟩ := viewOf_tmps hf
  unfold tmpL at this ⊢
  split at this
  · rename_i j hj
    unfold hiddenT at hhid
    rw [hj] at hhid
    have hjn : j < ops.size := by
      unfold ownT at hj
      rw [List.findIdx?_eq_some_iff_getElem] at hj
      obtain ⟨hl, _⟩ := hj
      simpa using hl
    split at this
    · rename_i hc
      have hm : j ∈ L ops.size (before bl i) := by simpa using hc
      rw [L_mem] at hm
      rw [if_pos (by simpa using L_mem.2 ⟨hm.1, hb j hm.2⟩)]
      exact this
    · rename_i hc
      have hnb : before bl i j = false := by
        rcases hq : before bl i j with _ | _
        · rfl
        · exact absurd (by simpa using L_mem.2 ⟨hjn, hq⟩) hc
      have hDj : D j = false := by
        by_cases hji : j = i
        · rw [hji]; exact hD
        · have hbj : before bl j i = true := by simpa [hji, hnb] using hhid
          rcases hq : D j with _ | _
          · rfl
          · have := hcl j hjn hq i hbj
            rw [hD] at this; cases this
      rw [if_neg (by
        intro hcc
        have : j ∈ L ops.size D := by simpa using hcc
        rw [L_mem, hDj] at this
        cases this.2)]
      exact this
  · exact this
def plus (D : Nat → Bool) (i : Nat) : Nat → Bool := fun j => D j || decide (j = i)
theorem Ctx.one (c : Ctx P et h pc ops S bl tg r vs) {ρ : Env} (he : ρ.et = et) (hh : HOK P ρ h) (hpc : allB ρ pc) (hv : allV ρ vs) {D : Nat → Bool} (hcl : Closed bl ops.size D) {i : Nat} (hi : i < ops.size) (hD : D i = false) (hb : ∀ j, before bl i j = true → D j = true)
    {b : Bd} {base : Nat → Prop} {w0 w : World} {a : Act} (hg : GRel ρ b base w0 w (tmpL r ops.toList S (L ops.size D)) (entL r S (L ops.size D)) (NS S r D ops.size) a.tmps S.nt) {Q : Exit → Act → World → Prop} {K : Act → World → Prop}
    (hk : ∀ b' w' a', a'.defers = a.defers → Agree b b' (· < S.next) → GRel ρ b' base w0 w' (tmpL r ops.toList S (L ops.size (plus D i))) (entL r S (L ops.size (plus D i))) (NS S r (plus D i) ops.size) a'.tmps S.nt → K a' w') : wpOp P ops Q i K a w := by
  obtain ⟨o, x, vi, ho, hx, ⟨kt, kh, G, hV⟩, hchk, hst, hok, hvi⟩ := c.all i hi
  have hs := okStep_ok hok
  have hnt : x.V.nt = S.nt := by rw [hV]; rfl
  have hVT : ∀ t e, find x.V.tmps t = some e → tmpL r ops.toList S (L ops.size D) t = some e := fun t e hf => c.view_tmps hcl hi hD hb hx hf
  have hVH : ∀ n e, find x.V.heap n = some e → entL r S (L ops.size D) n = some e := fun n e hf => c.view_heap hcl hi hD hb hx hf
  have hrel := hg.view hVT hVH hnt hchk
  refine stepOp_ok he hh hst hpc (fun v hvv => hv v (hvi v hvv)) hrel ho (fun b' w' val d1 d2 d3 => ?_)
  simp only [T.at] at d2 d3
  have hlow := c.low i x hx
  have hal : ∀ m, (inRange r S (L ops.size (before bl i)) m = true ∨ (x.V.next ≤ m ∧ m < x.U.next)) → NS S r (plus D i) ops.size m := by
    intro m hm
    rcases hm with hm | hm
    · rcases inRange_ok hm with h1 | ⟨j, hj, y, hy, h1⟩
      · exact .inl h1
      · rw [L_mem] at hj
        exact .inr ⟨j, hj.1, by simp [plus, hb j hj.2], y, hy, h1⟩
    · exact .inr ⟨i, hi, by simp [plus], x, hx, hm⟩
  have hst := hg.step (V := x.V) (U := x.U) (b' := b') (w' := w') (Tm' := tmpL r ops.toList S (L ops.size (plus D i))) (Hp' := entL r S (L ops.size (plus D i))) (N' := NS S r (plus D i) ops.size) hVH d1 d2 d3 (fun n e hf => (c.seen hi hx hf).2.2.1) ?hT ?hH ?hN1 ?hN2 ?hN3 (by cases o.dst <;> simp [Act.put])
  · refine hk _ _ _ (by cases o.dst <;> rfl) ?_ hst
    exact Bd.join_old (N := (· < S.next)) (fun n hn => by omega)
  case hT =>
    intro t e hf
    unfold tmpL at hf
    split at hf
    · rename_i j hj
      split at hf
      · rename_i hc
        have hm : j ∈ L ops.size (plus D i) := by simpa using hc
        rw [L_mem] at hm
        by_cases hji : j = i
        · subst hji
          have hdst : o.dst = some t := by
            unfold ownT at hj
            rw [List.findIdx?_eq_some_iff_getElem] at hj
            obtain ⟨hl, h1, _⟩ := hj
            have h2 : ops.toList[j] = o := by
              have := (Array.getElem?_eq_some_iff.1 ho).2
              simpa using this
            rw [h2] at h1
            simpa using h1
          rw [hx] at hf
          simp only [Option.bind_some] at hf
          exact .inl ⟨hdst, hf, fun m hm => hal m (hs.dst t e hdst hf m hm)⟩
        · refine .inr ⟨fun hdst => hji ?_, ?_⟩
          · have := (c.edge i o ho).2.2 t hdst
            rw [hj] at this
            exact Option.some.inj this
          · have hDj : D j = true := by simpa [plus, hji] using hm.2
            unfold tmpL
            rw [hj]
            dsimp only
            rw [if_pos (by simpa using L_mem.2 ⟨hm.1, hDj⟩)]
            exact hf
      · rename_i hc
        have hjn : j < ops.size := by
          unfold ownT at hj
          rw [List.findIdx?_eq_some_iff_getElem] at hj
          obtain ⟨hl, _⟩ := hj
          simpa using hl
        have hpj : plus D i j = false := by
          rcases hq : plus D i j with _ | _
          · rfl
          · exact absurd (by simpa using L_mem.2 ⟨hjn, hq⟩) hc
        have hji : ¬ j = i := fun e => by simp [plus, e] at hpj
        have hDj : D j = false := by simpa [plus, hji] using hpj
        refine .inr ⟨fun hdst => hji ?_, ?_⟩
        · have := (c.edge i o ho).2.2 t hdst
          rw [hj] at this
          exact Option.some.inj this
        · unfold tmpL
          rw [hj]
          dsimp only
          rw [if_neg (by
            intro hcc
            have : j ∈ L ops.size D := by simpa using hcc
            rw [L_mem, hDj] at this
            cases this.2)]
          exact hf
    · rename_i hn
      refine .inr ⟨fun hdst => ?_, ?_⟩
      · have := (c.edge i o ho).2.2 t hdst
        rw [hn] at this
        cases this
      · unfold tmpL
        rw [hn]
        exact hf
  case hN1 =>
    intro n hn
    rcases hn with hn | ⟨j, hj, hDj, y, hy, h1⟩
    · exact .inl hn
    · exact .inr ⟨j, hj, by simp [plus, hDj], y, hy, h1⟩
  case hN2 => exact fun n h1 h2 => .inr ⟨i, hi, by simp [plus], x, hx, h1, h2⟩
  case hN3 =>
    intro n hn hc
    rcases hn with hn | ⟨j, hj, hDj, y, hy, h1⟩
    · omega
    · have := c.uniq hy hx h1.1 h1.2 hc.1 hc.2
      subst this
      rw [hD] at hDj; cases hDj
  case hH =>
    intro n e hf hge
    -- the block's first state
    unfold entL at hf
    rw [Option.map_eq_some_iff] at hf
    obtain ⟨e0, he0, hae⟩ := hf
    by_cases hnew : ∃ e1, find (news x) n = some e1
    · obtain ⟨e1, hfe⟩ := hnew
      have hnm := news_mem hfe
      have hb0 := c.base_new (S := S) (L_mem.2 ⟨hi, by simp [plus]⟩ : i ∈ L ops.size (plus D i)) hx hfe
      rw [hb0] at he0
      cases he0
      have hno : lastW (wrsOf r (L ops.size (plus D i))) n = none := by
        refine lastW_none fun cs hcs => ?_
        obtain ⟨j, hj, y, hy, hw⟩ := wrsOf_mem hcs
        rw [L_mem] at hj
        obtain ⟨e2, u2, hf2, _, _, _⟩ := wrote_mem hw
        obtain ⟨s1, s2, s3, s4⟩ := c.seen hj.1 hy hf2
        rcases s4 with s4 | ⟨k, hk, hbk, z, hz, z1, z2⟩
        · omega
        · have := c.uniq hz hx z1 z2 hnm.1 hnm.2.1
          subst this
          by_cases hji : j = k
          · subst hji
            rw [hx] at hy; cases hy
            omega
          · have hDj : D j = true := by simpa [plus, hji] using hj.2
            have := hcl j hj.1 hDj k hbk
            rw [hD] at this; cases this
      unfold applyW at hae
      rw [hno] at hae
      subst hae
      exact .inl ⟨hnm.1, hnm.2.2.2, hnm.2.2.1, fun m hm => hal m (hs.news n _ hfe m hm)⟩
    · -- the same block as before
      have hbase : baseE r S (L ops.size D) n = some e0 := by
        rcases baseE_cases he0 with ⟨k, hk, y, hy, hfy⟩ | hs'
        · rw [L_mem] at hk
          by_cases hki : k = i
          · subst hki
            rw [hx] at hy; cases hy
            exact absurd ⟨_, hfy⟩ hnew
          · exact c.base_new (L_mem.2 ⟨hk.1, by simpa [plus, hki] using hk.2⟩) hy hfy
        · rw [c.base_old (c.heap n e0 hs')]; exact hs'
      by_cases hw : ∃ cs, (n, cs) ∈ wrote x
      · obtain ⟨cs, hw⟩ := hw
        obtain ⟨ev, u, hfv, hfu, hov, hcs⟩ := wrote_mem hw
        obtain ⟨u', hu', hug, huk, hue, hun⟩ := hs.seen n ev hfv hov
        rw [hfu] at hu'
        cases hu'
        obtain ⟨s1, s2, s3, s4⟩ := c.seen hi hx hfv
        have hlast : lastW (wrsOf r (L ops.size (plus D i))) n = lastW (wrote x) n := by
          refine lastW_at hx _ hi (by simp [plus]) (fun j hj hij hpj y hy cs' hw' => ?_) ⟨cs, hw⟩
          have hDj : D j = true := by
            have : ¬ j = i := by omega
            simpa [plus, this] using hpj
          have := c.writers hcl hi hD s2 hj hDj hy hw'
          have := ((c.edge i o ho).2.1 j this).1
          omega
        obtain ⟨d, hd⟩ := lastW_has hw
        have hdc : d = u.blk.cells := by
          obtain ⟨_, u2, _, hu2, _, hc2⟩ := wrote_mem (lastW_some hd)
          rw [hfu] at hu2
          cases hu2
          exact hc2
        have hve := hVH n ev hfv
        unfold entL at hve
        rw [hbase] at hve
        simp only [Option.map_some, Option.some.injEq] at hve
        have hshape : ev.g = e0.g ∧ ev.blk.kind = e0.blk.kind ∧ ev.blk.elem = e0.blk.elem := by
          rw [← hve]
          unfold applyW
          split <;> exact ⟨rfl, rfl, rfl⟩
        unfold applyW at hae
        rw [hlast, hd] at hae
        dsimp only at hae
        have heg : e.g = e0.g := by rw [← hae]
        have heb : e.blk = u.blk := by
          rw [← hae]
          have hk2 : u.blk.kind = e0.blk.kind := huk.trans hshape.2.1
          have he2 : u.blk.elem = e0.blk.elem := hue.trans hshape.2.2
          show (⟨d, e0.blk.elem, e0.blk.kind⟩ : Blk) = u.blk
          rw [hdc, ← hk2, ← he2]
        have hgv : allB ρ ev.g := by rw [hshape.1, ← heg]; exact hge
        refine .inr (.inl ⟨ev, u, hfv, hgv, hov, hfu, by rw [hug]; exact hgv, huk, hue, heb, fun m hm => ?_⟩)
        rw [heb] at hm
        exact hal m (hun m hm)
      · have hsame : entL r S (L ops.size D) n = some e := by
          unfold entL
          rw [hbase]
          simp only [Option.map_some, Option.some.injEq]
          rw [← hae]
          refine applyW_eq (Eq.symm (lastW_part _ (fun j hj hDj => by simp [plus, hDj]) (fun j hj hpj hDj y hy cs hw' => ?_))) e0
          have hji : j = i := by
            rcases Classical.em (j = i) with h1 | h1
            · exact h1
            · exfalso; simp [plus, h1] at hpj; rw [hDj] at hpj; cases hpj
          subst hji
          rw [hx] at hy; cases hy
          exact hw ⟨cs, hw'⟩
        by_cases hvis : ∃ ev, find x.V.heap n = some ev ∧ ev.blk.own = true
        · obtain ⟨ev, hfv, hov⟩ := hvis
          obtain ⟨u, hfu, hug, huk, hue, hun⟩ := hs.seen n ev hfv hov
          have hev := hVH n ev hfv
          rw [hsame] at hev
          cases hev
          have hcells : e.blk.cells = u.blk.cells := by
            rcases hsm : SV.sameL e.blk.cells u.blk.cells with _ | _
            · exfalso
              refine hw ⟨u.blk.cells, ?_⟩
              unfold Sx.wrote
              rw [List.mem_filterMap]
              refine ⟨(n, e), find_mem hfv, ?_⟩
              simp only [hfv, hfu, hov, hsm]
              rfl
            · exact SV.sameL_eq _ _ hsm
          have hblk : e.blk = u.blk := by
            cases he : e.blk with
            | mk c1 c2 c3 =>
              cases hu : u.blk with
              | mk d1 d2 d3 =>
                rw [he, hu] at hcells huk hue
                simp only at hcells huk hue
                rw [hcells, huk, hue]
          refine .inr (.inl ⟨e, u, hfv, hge, hov, hfu, by rw [hug]; exact hge, huk, hue, hblk, fun m hm => ?_⟩)
          rw [hblk] at hm
          exact hal m (hun m hm)
        · refine .inr (.inr ⟨hsame, fun ev hfv => ?_⟩)
          rcases hov : ev.blk.own with _ | _
          · rfl
          · exact absurd ⟨ev, hfv, hov⟩ hvis
end
end Go.Proofs.Ytdfpenjhpemokaa.Sx
/-
  A verified symbolic executor, part 23: regions whose order is drawn.
-/
namespace Go.Proofs.Ytdfpenjhpemokaa.Sx
open Go.RowKit (Below)

section
variable {P : Program} {et : TypeId} {h : Handler} {pc : List E} {ops : Array Oper} {S : St} {bl : List Nat} {tg : List (List Nat)} {vs : List VC}

theorem inRange_congr {r r' : RS} {l : List Nat} (hr : ∀ j ∈ l, r j = r' j) (n : Nat) : inRange r S l n = inRange r' S l n := by
  unfold inRange
  congr 1
  induction l with
  | nil => rfl
  | cons a l ih =>
    rw [List.any_cons, List.any_cons, hr a (.head _), ih (fun j hj => hr j (.tail _ hj))]
theorem okStep_congr {r r' : RS} {l : List Nat} (hr : ∀ j ∈ l, r j = r' j) (tgi : List Nat) (st : Bool) (x : OR) (dst : Option Tmp) : okStep r S l tgi st x dst = okStep r' S l tgi st x dst := by
  have : inRange r S l = inRange r' S l := funext (inRange_congr hr)
  unfold okStep
  rw [this]
theorem drawChk_parts (hc : drawChk P ops S bl = true) : P.follows .mixedOrders = true ∧
    (∀ i, i < ops.size → ∃ o, ops[i]? = some o ∧ (∀ j ∈ edgesOf o, j < i) ∧ (∀ j, before bl i j = true → j < i ∧ ∃ e ∈ edgesOf o, e = j ∨ before bl e j = true) ∧ (∀ t, o.dst = some t → ownT ops.toList t = some i)) ∧
    (∀ n e, find S.heap n = some e → n < S.next) := by
  unfold drawChk at hc
  simp only [Bool.and_eq_true, List.all_eq_true, decide_eq_true_eq, List.mem_range] at hc
  obtain ⟨⟨h1, h2⟩, h3⟩ := hc
  refine ⟨h1, fun i hi => ?_, fun n e hf => h3 _ (find_mem hf)⟩
  have := h2 i hi
  split at this
  · rename_i o ho
    simp only [Bool.and_eq_true, List.all_eq_true, decide_eq_true_eq, List.any_eq_true, Bool.or_eq_true, beq_iff_eq] at this
    refine ⟨o, ho, this.1.1.1, fun j hj => ?_, fun t ht => ?_⟩
    · have hji : j < i := by
        rcases Nat.lt_or_ge j i with h | h
        · exact h
        · exfalso
          unfold before at hj
          rw [Nat.testBit_lt_two_pow (Nat.lt_of_lt_of_le this.1.1.2 (Nat.pow_le_pow_right (by omega) h))] at hj
          cases hj
      refine ⟨hji, ?_⟩
      have h5 := this.1.2 j (by simpa using hji)
      rw [hj] at h5
      simpa using h5
    have h4 := this.2
    rw [ht] at h4
    simpa using h4
  · cases this
theorem ctx_of (hc : drawChk P ops S bl = true) {rs : List OR} (hd : drawL P et h pc ops S bl tg ops.size true ops.toList [] = some (rs, vs)) : Ctx P et h pc ops S bl tg (fun j => rs[j]?) vs ∧ rs.length = ops.size := by
  obtain ⟨p1, p2, p3⟩ := drawChk_parts hc
  obtain ⟨f1, f2, f3⟩ := drawL_facts hd
  simp only [List.length_nil, Nat.zero_add, Array.length_toList] at f1 f3
  have hfact : ∀ i, i < ops.size → ∃ o x vi, ops[i]? = some o ∧ rs[i]? = some x ∧ Fact P et h pc ops S bl tg ops.size (rs.take i) o x vi ∧ ∀ v ∈ vi, v ∈ vs := by
    intro i hi
    obtain ⟨o, ho, _⟩ := p2 i hi
    obtain ⟨x, vi, a1, a2, a3⟩ := f3 i o (by simpa using ho)
    exact ⟨o, x, vi, ho, a1, a2, a3⟩
  have hlen : ∀ i, i ≤ ops.size → (rs.take i).length = i := by intro i hi; rw [List.length_take]; omega
  have hlt : ∀ i j, i < ops.size → j ∈ L ops.size (before bl i) → j < i := by
    intro i j hi hj
    obtain ⟨o, ho, _, h2, _⟩ := p2 i hi
    exact (h2 j (L_mem.1 hj).2).1
  have hpre : ∀ i, i < ops.size → ∀ j ∈ L ops.size (before bl i), (fun j => (rs.take i)[j]?) j = (fun j => rs[j]?) j := by
    intro i hi j hj
    have := hlt i j hi hj
    simp only [List.getElem?_take]
    rw [if_pos this]
  have hlast0 : lastNext S (rs.take 0) = S.next := rfl
  have hlast : ∀ i x, i < ops.size → rs[i]? = some x → lastNext S (rs.take (i + 1)) = x.U.next := by
    intro i x hi hx
    unfold lastNext
    rw [List.getLast?_eq_getElem?, hlen (i + 1) (by omega)]
    simp only [Nat.add_sub_cancel, List.getElem?_take]
    rw [if_pos (by omega), hx]
  have hnext : ∀ i x, i < ops.size → rs[i]? = some x → x.V.next = lastNext S (rs.take i) ∧ x.V.next ≤ x.U.next := by
    intro i x hi hx
    obtain ⟨o, x', vi, ho, hx', hf, _⟩ := hfact i hi
    rw [hx] at hx'
    cases hx'
    obtain ⟨kt, kh, G, hV⟩ := hf.view
    refine ⟨by rw [hV]; rfl, ?_⟩
    have := hf.ok
    rw [hlen i (by omega)] at this
    exact (okStep_ok this).le
  have hlow : ∀ i x, i < ops.size → rs[i]? = some x → S.next ≤ x.V.next := by
    intro i
    induction i with
    | zero => intro x hi hx; rw [(hnext 0 x hi hx).1, hlast0]; exact Nat.le_refl _
    | succ i ih =>
      intro x hi hx
      obtain ⟨o, y, vi, ho, hy, _, _⟩ := hfact i (by omega)
      have h1 := ih y (by omega) hy
      have h2 := (hnext i y (by omega) hy).2
      rw [(hnext (i + 1) x hi hx).1, hlast i y (by omega) hy]
      omega
  have hmono : ∀ j i x y, j < i → i < ops.size → rs[j]? = some x → rs[i]? = some y → x.U.next ≤ y.V.next := by
    intro j i
    induction i with
    | zero => intro x y hj; omega
    | succ i ih =>
      intro x y hj hi hx hy
      obtain ⟨o, z, vi, ho, hz, _, _⟩ := hfact i (by omega)
      rw [(hnext (i + 1) y hi hy).1, hlast i z (by omega) hz]
      by_cases he : j = i
      · subst he
        rw [hx] at hz; cases hz
        exact Nat.le_refl _
      · have h1 := ih x z (by omega) (by omega) hx hz
        have h2 := (hnext i z (by omega) hz).2
        omega
  have hsz : ∀ i x, rs[i]? = some x → i < ops.size := fun i x hx => by have := (List.getElem?_eq_some_iff.1 hx).1; omega
  refine ⟨⟨fun i hi => ?_, fun j i x y hj hx hy => hmono j i x y hj (hsz i y hy) hx hy, fun i x hx => ⟨hlow i x (hsz i x hx) hx, (hnext i x (hsz i x hx) hx).2⟩, fun i o ho => ?_, p3⟩, f1⟩
  · obtain ⟨o, x, vi, ho, hx, hf, hvi⟩ := hfact i hi
    obtain ⟨kt, kh, G, hV⟩ := hf.view
    have hn := (hnext i x hi hx).1
    rw [hlen i (by omega), viewOf_congr (hpre i hi), ← hn] at hV
    have hok := hf.ok
    rw [hlen i (by omega), okStep_congr (hpre i hi)] at hok
    exact ⟨o, x, vi, ho, hx, ⟨kt, kh, G, hV⟩, hf.chk, hf.step, hok, hvi⟩
  · have hi : i < ops.size := (Array.getElem?_eq_some_iff.1 ho).1
    obtain ⟨o', ho', h1⟩ := p2 i hi
    rw [ho] at ho'
    cases ho'
    exact h1

theorem entL_none {r : RS} {D : Nat → Bool} {N : Nat} (hD : ∀ j, D j = false) (n : Nat) : entL r S (L N D) n = find S.heap n := by
  have : L N D = [] := by unfold L; rw [List.filter_eq_nil_iff]; intro j _; rw [hD j]; simp
  rw [this]
  unfold entL applyW
  simp only [baseE, wrsOf, List.flatMap_nil, lastW]
  cases find S.heap n <;> rfl
theorem wpAny_drawn {r : RS} (c : Ctx P et h pc ops S bl tg r vs) {ρ : Env} (he : ρ.et = et) (hh : HOK P ρ h) (hpc : allB ρ pc) (hv : allV ρ vs) {base : Nat → Prop} {w0 : World} {Q : Exit → Act → World → Prop} {b0 : Bd} {dfs : List Deferred}
    (hQ : ∀ b w a, a.defers = dfs → Agree b0 b (· < S.next) → GRel ρ b base w0 w (tmpL r ops.toList S (L ops.size fun _ => true)) (entL r S (L ops.size fun _ => true)) (NS S r (fun _ => true) ops.size) a.tmps S.nt → Q .normal a w) :
    ∀ (fuel : Nat) (listed : Array Bool) (D : Nat → Bool) (b : Bd) (w : World) (a : Act), listed.size = ops.size → (∀ j, j < ops.size → listed.getD j true = D j) → (∀ j, ops.size ≤ j → D j = false) → (L ops.size fun j => !D j).length ≤ fuel → Closed bl ops.size D → a.defers = dfs → Agree b0 b (· < S.next) →
      GRel ρ b base w0 w (tmpL r ops.toList S (L ops.size D)) (entL r S (L ops.size D)) (NS S r D ops.size) a.tmps S.nt → wpAny P .any ops Q fuel listed a w := by
  have hready : ∀ (listed : Array Bool) (D : Nat → Bool), listed.size = ops.size → (∀ j, j < ops.size → listed.getD j true = D j) → ∀ i, i ∈ Region.ready .any ops listed ↔ i < ops.size ∧ D i = false ∧ ∀ o, ops[i]? = some o → ∀ j ∈ edgesOf o, D j = true := by
    intro listed D hls hl i
    have hget : ∀ j, j < ops.size → ∀ d, listed.getD j d = D j := by
      intro j hj d
      rw [← hl j hj]
      have hjl : j < listed.size := by omega
      simp [Array.getD, hjl]
    unfold Region.ready
    simp only [List.mem_filter, List.mem_range, Bool.and_eq_true, Bool.not_eq_true']
    constructor
    · rintro ⟨h1, h2, h3⟩
      refine ⟨h1, by rw [← hget i h1]; exact h2, fun o ho j hj => ?_⟩
      rw [ho] at h3
      simp only [Option.map_some, Option.getD_some, Array.all_eq_true] at h3
      unfold edgesOf at hj
      rw [List.mem_map] at hj
      obtain ⟨e, he, rfl⟩ := hj
      rw [List.mem_filter] at he
      have hel := (c.edge i o ho).1 e.on (by unfold edgesOf; exact List.mem_map.2 ⟨e, List.mem_filter.2 he, rfl⟩)
      have hmem : e ∈ o.after := by simpa using he.1
      obtain ⟨k, hk, hke⟩ := Array.mem_iff_getElem.1 hmem
      have := h3 k hk
      rw [hke] at this
      simp only [he.2, Bool.not_true, Bool.false_or] at this
      rw [← hget e.on (by omega)]; exact this
    · rintro ⟨h1, h2, h3⟩
      refine ⟨h1, by rw [hget i h1]; exact h2, ?_⟩
      have ho : ops[i]? = some ops[i] := by simp [h1]
      rw [ho]
      simp only [Option.map_some, Option.getD_some, Array.all_eq_true]
      intro k hk
      rcases hbd : Region.binds .any ops[i].after[k] with _ | _
      · rfl
      · simp only [Bool.not_true, Bool.false_or]
        have hmem : ops[i].after[k].on ∈ edgesOf ops[i] := by
          unfold edgesOf
          exact List.mem_map.2 ⟨ops[i].after[k], List.mem_filter.2 ⟨by simp, hbd⟩, rfl⟩
        have hel := (c.edge i _ ho).1 _ hmem
        rw [hget _ (by omega)]
        exact h3 _ ho _ hmem
  have hdone : ∀ (listed : Array Bool) (D : Nat → Bool), listed.size = ops.size → (∀ j, j < ops.size → listed.getD j true = D j) → Region.ready .any ops listed = [] → ∀ i, i < ops.size → D i = true := by
    intro listed D hls hl hr i
    induction i using Nat.strongRecOn with
    | _ i ih =>
      intro hi
      rcases hDi : D i with _ | _
      · exfalso
        have : i ∈ Region.ready .any ops listed := by
          rw [hready listed D hls hl]
          refine ⟨hi, hDi, fun o ho j hj => ?_⟩
          have := (c.edge i o ho).1 j hj
          exact ih j this (by omega)
        rw [hr] at this
        cases this
      · rfl
  have hall : ∀ (D : Nat → Bool), (∀ i, i < ops.size → D i = true) → L ops.size D = L ops.size (fun _ => true) := by
    intro D hD
    unfold L
    exact List.filter_congr fun j hj => by rw [hD j (by simpa using hj)]
  have hfin : ∀ (listed : Array Bool) (D : Nat → Bool) (b : Bd) (w : World) (a : Act), listed.size = ops.size → (∀ j, j < ops.size → listed.getD j true = D j) → Region.ready .any ops listed = [] → a.defers = dfs → Agree b0 b (· < S.next) →
      GRel ρ b base w0 w (tmpL r ops.toList S (L ops.size D)) (entL r S (L ops.size D)) (NS S r D ops.size) a.tmps S.nt → Q .normal a w := by
    intro listed D b w a hls hl hr hda hag hg
    have hD := hdone listed D hls hl hr
    rw [hall D hD] at hg
    refine hQ b w a hda hag ?_
    have hNe : NS S r D ops.size = NS S r (fun _ => true) ops.size := by
      funext n
      refine propext ⟨fun hn => ?_, fun hn => ?_⟩
      · rcases hn with hn | ⟨j, hj, _, y, hy⟩
        · exact .inl hn
        · exact .inr ⟨j, hj, rfl, y, hy⟩
      · rcases hn with hn | ⟨j, hj, _, y, hy⟩
        · exact .inl hn
        · exact .inr ⟨j, hj, hD j hj, y, hy⟩
    rw [← hNe]; exact hg
  intro fuel
  induction fuel with
  | zero =>
    intro listed D b w a hls hl hDo hf hcl hda hag hg
    have hr : Region.ready .any ops listed = [] := by
      rw [List.eq_nil_iff_forall_not_mem]
      intro i hi
      rw [hready listed D hls hl] at hi
      have hm : i ∈ L ops.size fun j => !D j := L_mem.2 ⟨hi.1, by simp [hi.2.1]⟩
      have : (L ops.size fun j => !D j) = [] := List.eq_nil_of_length_eq_zero (by omega)
      rw [this] at hm
      cases hm
    exact ⟨hr, hfin listed D b w a hls hl hr hda hag hg⟩
  | succ fuel ih =>
    intro listed D b w a hls hl hDo hf hcl hda hag hg
    refine ⟨fun hr => hfin listed D b w a hls hl hr hda hag hg, fun i hi => ?_⟩
    rw [hready listed D hls hl] at hi
    obtain ⟨hi1, hi2, hi3⟩ := hi
    have ho : ops[i]? = some ops[i] := by simp [hi1]
    have hb : ∀ j, before bl i j = true → D j = true := by
      intro j hj
      obtain ⟨_, e, hee, hej⟩ := (c.edge i _ ho).2.1 j hj
      have hDe := hi3 _ ho e hee
      have hel := (c.edge i _ ho).1 e hee
      rcases hej with rfl | hej
      · exact hDe
      · exact hcl e (by omega) hDe j hej
    refine c.one he hh hpc hv hcl hi1 hi2 hb hg (fun b' w' a' e1 e2 e3 => ?_)
    refine ih _ (plus D i) b' w' a' (by simpa using hls) (fun j hj => ?_) (fun j hj => ?_) ?_ ?_ (e1.trans hda) (hag.trans e2 fun n hn => hn) e3
    · have hjl : j < listed.size := by omega
      have hjl2 : j < (listed.setIfInBounds i true).size := by simpa using hjl
      by_cases hji : j = i
      · subst hji
        simp [plus, Array.getD, hls, hi1]
      · have h1 := hl j hj
        simp only [Array.getD_eq_getD_getElem?] at h1 ⊢
        rw [Array.getElem?_setIfInBounds_ne (Ne.symm hji), h1]
        simp [plus, hji]
    · have : ¬ j = i := by omega
      simp [plus, hDo j hj, this]
    · -- one less is left
      have key : ∀ N, i < N → (L N fun j => !(plus D i j)).length + 1 = (L N fun j => !D j).length := by
        intro N
        induction N with
        | zero => intro h; omega
        | succ N ihN =>
          intro hN
          rw [L_cons, L_cons]
          by_cases hiN : i = N
          · subst hiN
            have h1 : (L i fun j => !(plus D i j)) = L i fun j => !D j := by
              unfold L
              refine List.filter_congr fun j hj => ?_
              have : ¬ j = i := by have := List.mem_range.1 hj; omega
              simp [plus, this]
            rw [h1]
            simp [plus, hi2]
          · have := ihN (by omega)
            have h2 : ¬ N = i := fun e => hiN e.symm
            simp only [plus, h2, decide_false, Bool.or_false, List.length_append] at this ⊢
            omega
      have := key ops.size hi1
      omega
    · intro k hk hDk j hj
      by_cases hki : k = i
      · subst hki
        simp [plus, hb j hj]
      · have hDk' : D k = true := by simpa [plus, hki] using hDk
        simp [plus, hcl k hk hDk' j hj]
end

theorem runDraw_ok {P : Program} {et : TypeId} {ρ : Env} (he : ρ.et = et) (h : Handler) (hh : HOK P ρ h) : DOK P ρ (runDraw P et h) := by
  intro ops pc S t vs hs hpc hv id b base w0 w a hr
  unfold runDraw at hs
  dsimp only at hs
  split at hs
  · rename_i hchk
    have key : ∃ tg rs, drawL P et h pc ops S (befs ops.toList []) tg ops.size true ops.toList [] = some (rs, vs) ∧ t = .leaf (viewOf (fun j => rs[j]?) ops.toList S (L ops.size fun _ => true) (fun _ => false) (fun _ => false) (keysT ops.toList S) (keysH (fun j => rs[j]?) S (L ops.size fun _ => true)) [] (lastNext S rs)) := by
      split at hs
      · rename_i tg rs vs' hx
        cases hs
        split at hx
        · split at hx
          · rename_i rs0 _ _
            rw [Option.map_eq_some_iff] at hx
            obtain ⟨y, hy, hye⟩ := hx
            cases hye
            exact ⟨_, _, hy, rfl⟩
          · cases hx
        · rw [Option.map_eq_some_iff] at hx
          obtain ⟨y, hy, hye⟩ := hx
          cases hye
          exact ⟨[], rs, hy, rfl⟩
      · cases hs
    obtain ⟨tg, rs, hd, rfl⟩ := key
    obtain ⟨c, hlen⟩ := ctx_of hchk hd
    obtain ⟨hmix, _, hheap⟩ := drawChk_parts hchk
    refine wp_region_any hmix ?_
    have hg0 : GRel ρ b base w0 { w with drawn := w.drawn + 1 } (tmpL (fun j => rs[j]?) ops.toList S (L ops.size fun _ => false)) (entL (fun j => rs[j]?) S (L ops.size fun _ => false)) (NS S (fun j => rs[j]?) (fun _ => false) ops.size) a.tmps S.nt := by
      have hN : ∀ n, n < S.next → NS S (fun j => rs[j]?) (fun _ => false) ops.size n := fun n hn => .inl hn
      refine ⟨fun n e hf hge => ?_, fun n m e k hf hk hge hgk ho hok heq => ?_, fun i e hf => ?_, ⟨hr.below.os, hr.below.tape, hr.below.output, hr.below.size, hr.below.block⟩, hr.base, hr.nt, hr.kept⟩
      · rw [entL_none (fun _ => rfl)] at hf
        obtain ⟨m1, m2, m3⟩ := hr.heap.mem n e hf hge
        exact ⟨hN n m1, m2, SV.okL_mono hN _ m3⟩
      · rw [entL_none (fun _ => rfl)] at hf hk
        exact hr.heap.inj n m e k hf hk hge hgk ho hok heq
      · unfold tmpL at hf
        have hf : find S.tmps i = some e := by
          split at hf
          · rw [if_neg (by simp [L])] at hf
            exact hf
          · exact hf
        obtain ⟨t1, t2⟩ := hr.tmps i e hf
        exact ⟨fun hge => ⟨(t1 hge).1, SV.ok_mono hN _ (t1 hge).2⟩, t2⟩
    refine wpAny_drawn c he hh hpc hv (b0 := b) (dfs := a.defers) (base := base) (w0 := w0) ?_ ops.size _ (fun _ => false) b _ a (by simp) (fun j hj => by simp [Array.getD, hj]) (fun _ _ => rfl) ?_ (fun _ _ hc => by cases hc) rfl (Agree.refl b _) hg0
    · intro b' w' a' hda hag hg
      have hlast : S.next ≤ lastNext S rs ∧ ∀ n, NS S (fun j => rs[j]?) (fun _ => true) ops.size n → n < lastNext S rs := by
        unfold lastNext
        rw [List.getLast?_eq_getElem?]
        by_cases h0 : rs.length = 0
        · have hnone : rs[rs.length - 1]? = none := by rw [List.getElem?_eq_none]; omega
          rw [hnone]
          refine ⟨Nat.le_refl _, fun n hn => ?_⟩
          rcases hn with hn | ⟨j, hj, _⟩
          · exact hn
          · omega
        · have hsome : rs[rs.length - 1]? = some rs[rs.length - 1] := by rw [List.getElem?_eq_getElem]
          rw [hsome]
          dsimp only
          have hlo := c.low (rs.length - 1) _ hsome
          refine ⟨by omega, fun n hn => ?_⟩
          rcases hn with hn | ⟨j, hj, _, y, hy, y1, y2⟩
          · omega
          · by_cases hje : j = rs.length - 1
            · subst hje
              have hy' : rs[rs.length - 1]? = some y := hy
              rw [hsome] at hy'
              cases hy'
              exact y2
            · have := c.mono j (rs.length - 1) y _ (by omega) hy hsome
              omega
      refine ⟨rfl, hda, b', hag, ⟨⟨fun n e hf hge => ?_, fun n m e k hf hk hge hgk ho hok heq => ?_⟩, fun i e hf => ?_, hg.below, hg.base, hg.nt, hg.kept⟩, hlast.1⟩
      · obtain ⟨m1, m2, m3⟩ := hg.mem n e (viewOf_heap hf).1 hge
        exact ⟨hlast.2 n m1, m2, SV.okL_mono hlast.2 _ m3⟩
      · exact hg.inj n m e k (viewOf_heap hf).1 (viewOf_heap hk).1 hge hgk ho hok heq
      · obtain ⟨t1, t2⟩ := hg.tmps i e (viewOf_tmps hf).1
        exact ⟨fun hge => ⟨(t1 hge).1, SV.ok_mono hlast.2 _ (t1 hge).2⟩, t2⟩
    · unfold L
      have := List.length_filter_le (fun j => !false) (List.range ops.size)
      rw [List.length_range] at this
      exact this
  · cases hs
end Go.Proofs.Ytdfpenjhpemokaa.Sx
