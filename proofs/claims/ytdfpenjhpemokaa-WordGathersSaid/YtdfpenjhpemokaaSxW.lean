/-
  A verified symbolic executor, part 18: regions whose order is drawn: what each operation gives, by what must lie before it alone.
-/
import Derived.Test.YtdfpenjhpemokaaSxQ
set_option linter.unusedVariables false
set_option linter.unusedSimpArgs false
namespace Go.Proofs.Ytdfpenjhpemokaa.Sx
open Go.RowKit (Below)

mutual
def SV.same : SV → SV → Bool
  | .int k a, .int j c => decide (k = j) && a.e.same c.e && decide (a.lo = c.lo) && decide (a.hi = c.hi)
  | .bool a, .bool c => a.same c
  | .nilp, .nilp => true
  | .ptr n o, .ptr m p => decide (n = m) && decide (o = p)
  | .nils, .nils => true
  | .sl n o l c, .sl m p k d => decide (n = m) && decide (o = p) && decide (l = k) && decide (c = d)
  | .emp n, .emp m => decide (n = m)
  | .osl n s l, .osl m t k => decide (n = m) && decide (s = t) && l.e.same k.e && decide (l.lo = k.lo) && decide (l.hi = k.hi)
  | .esl n i, .esl m j => decide (n = m) && i.same j
  | .optr n s l o, .optr m t k p => decide (n = m) && decide (s = t) && l.e.same k.e && decide (l.lo = k.lo) && decide (l.hi = k.hi) && decide (o = p)
  | .slv n o l, .slv m p k => decide (n = m) && decide (o = p) && l.e.same k.e && decide (l.lo = k.lo) && decide (l.hi = k.hi)
  | .nili, .nili => true
  | .ifc t v, .ifc u x => decide (t = u) && v.same x
  | .err a, .err c => a.e.same c.e && decide (a.lo = c.lo) && decide (a.hi = c.hi)
  | .nilf, .nilf => true
  | .fn f l, .fn g m => decide (f = g) && SV.sameL l m
  | .agg l, .agg m => SV.sameL l m
  | .tup l, .tup m => SV.sameL l m
  | _, _ => false
def SV.sameL : List SV → List SV → Bool
  | [], [] => true
  | a :: l, c :: m => a.same c && SV.sameL l m
  | _, _ => false
end
theorem R.ext {a c : R} (h1 : a.e = c.e) (h2 : a.lo = c.lo) (h3 : a.hi = c.hi) : a = c := by cases a; cases c; simp_all
mutual
theorem SV.same_eq : (x y : SV) → x.same y = true → x = y
  | .int k a, y, h => by
    cases y <;> simp [SV.same] at h
    rw [h.1.1.1, R.ext (E.same_eq h.1.1.2) h.1.2 h.2]
  | .bool a, y, h => by cases y <;> simp [SV.same] at h; rw [E.same_eq h]
  | .nilp, y, h => by cases y <;> simp [SV.same] at h; rfl
  | .ptr n o, y, h => by cases y <;> simp [SV.same] at h; rw [h.1, h.2]
  | .nils, y, h => by cases y <;> simp [SV.same] at h; rfl
  | .sl n o l c, y, h => by cases y <;> simp [SV.same] at h; rw [h.1.1.1, h.1.1.2, h.1.2, h.2]
  | .emp n, y, h => by cases y <;> simp [SV.same] at h; rw [h]
  | .osl n s l, y, h => by cases y <;> simp [SV.same] at h; rw [h.1.1.1.1, h.1.1.1.2, R.ext (E.same_eq h.1.1.2) h.1.2 h.2]
  | .esl n i, y, h => by cases y <;> simp [SV.same] at h; rw [h.1, E.same_eq h.2]
  | .optr n s l o, y, h => by cases y <;> simp [SV.same] at h; rw [h.1.1.1.1.1, h.1.1.1.1.2, R.ext (E.same_eq h.1.1.1.2) h.1.1.2 h.1.2, h.2]
  | .slv n o l, y, h => by cases y <;> simp [SV.same] at h; rw [h.1.1.1.1, h.1.1.1.2, R.ext (E.same_eq h.1.1.2) h.1.2 h.2]
  | .nili, y, h => by cases y <;> simp [SV.same] at h; rfl
  | .ifc t v, y, h => by
    cases y <;> simp [SV.same] at h
    rw [h.1, SV.same_eq v _ h.2]
  | .err a, y, h => by
    cases y <;> simp [SV.same] at h
    rw [R.ext (E.same_eq h.1.1) h.1.2 h.2]
  | .nilf, y, h => by cases y <;> simp [SV.same] at h; rfl
  | .fn f l, y, h => by
    cases y <;> simp [SV.same] at h
    rw [h.1, SV.sameL_eq l _ h.2]
  | .agg l, y, h => by
    cases y <;> simp [SV.same] at h
    rw [SV.sameL_eq l _ h]
  | .tup l, y, h => by
    cases y <;> simp [SV.same] at h
    rw [SV.sameL_eq l _ h]
  | .con v, y, h => by cases y <;> simp [SV.same] at h
theorem SV.sameL_eq : (x y : List SV) → SV.sameL x y = true → x = y
  | [], y, h => by cases y <;> simp [SV.sameL] at h; rfl
  | a :: l, y, h => by
    cases y with
    | nil => simp [SV.sameL] at h
    | cons c m =>
      simp [SV.sameL] at h
      rw [SV.same_eq a c h.1, SV.sameL_eq l m h.2]
end
mutual
theorem SV.ok_names {ρ : Env} {N M : Nat → Prop} : (v : SV) → v.ok ρ N → (∀ n ∈ v.names, M n) → v.ok ρ M
  | .int _ _, h, _ => h
  | .bool _, _, _ => trivial
  | .nilp, _, _ => trivial
  | .ptr n _, _, h => h n (by simp [SV.names])
  | .nils, _, _ => trivial
  | .sl n _ _ _, _, h => h n (by simp [SV.names])
  | .slv n _ _, h, k => ⟨k n (by simp [SV.names]), h.2⟩
  | .emp _, h, _ => h
  | .osl _ _ _, h, _ => h
  | .optr _ _ _ _, h, _ => h
  | .esl _ _, h, _ => h
  | .nili, _, _ => trivial
  | .ifc _ v, h, k => SV.ok_names v h k
  | .err _, h, _ => h
  | .nilf, _, _ => trivial
  | .fn _ l, h, k => SV.okL_names l h k
  | .agg l, h, k => SV.okL_names l h k
  | .tup l, h, k => SV.okL_names l h k
  | .con _, _, _ => trivial
theorem SV.okL_names {ρ : Env} {N M : Nat → Prop} : (l : List SV) → SV.okL ρ N l → (∀ n ∈ SV.namesL l, M n) → SV.okL ρ M l
  | [], _, _ => trivial
  | a :: l, h, k => ⟨SV.ok_names a h.1 (fun n hn => k n (by simp [SV.namesL, hn])), SV.okL_names l h.2 (fun n hn => k n (by simp [SV.namesL, hn]))⟩
end

def edgesOf (o : Oper) : List Nat := (o.after.toList.filter (Region.binds .any)).map fun e => e.on
structure OR where
  V : St
  U : St
  deriving Inhabited
abbrev RS := Nat → Option OR
def news (x : OR) : List (Nat × HEnt) := restrict (fun n e => if decide (x.V.next ≤ n) && decide (n < x.U.next) && e.blk.own then some e else none) x.U.heap x.U.heap
def wrote (x : OR) : List (Nat × List SV) := x.V.heap.filterMap fun y =>
  match find x.V.heap y.1, find x.U.heap y.1 with
  | some e, some u => if e.blk.own && !(SV.sameL e.blk.cells u.blk.cells) then some (y.1, u.blk.cells) else none
  | _, _ => none
def lastW : List (Nat × List SV) → Nat → Option (List SV)
  | [], _ => none
  | (m, c) :: l, n => match lastW l n with
    | some d => some d
    | none => if m = n then some c else none
def wrsAt (r : RS) (j : Nat) : List (Nat × List SV) := match r j with
  | some x => wrote x
  | none => []
def wrsOf (r : RS) (l : List Nat) : List (Nat × List SV) := l.flatMap (wrsAt r)
def baseE (r : RS) (S : St) : List Nat → Nat → Option HEnt
  | [], n => find S.heap n
  | j :: l, n => match (r j).bind fun x => find (news x) n with
    | some e => some e
    | none => baseE r S l n
def applyW (r : RS) (l : List Nat) (n : Nat) (e : HEnt) : HEnt := match lastW (wrsOf r l) n with
  | some c => { e with blk := { e.blk with cells := c } }
  | none => e
def entL (r : RS) (S : St) (l : List Nat) (n : Nat) : Option HEnt := (baseE r S l n).map (applyW r l n)
def ownT (ops : List Oper) (t : Nat) : Option Nat := ops.findIdx? fun o => decide (o.dst = some t)
def tmpL (r : RS) (ops : List Oper) (S : St) (l : List Nat) (t : Nat) : Option Ent :=
  match ownT ops t with
  | some j => if l.contains j then (r j).bind fun x => find x.U.tmps t else find S.tmps t
  | none => find S.tmps t
def viewOf (r : RS) (ops : List Oper) (S : St) (l : List Nat) (hide hideT : Nat → Bool) (kt kh : List Nat) (G : List E) (lo : Nat) : St where
  tmps := kt.filterMap fun t => if hideT t then none else (tmpL r ops S l t).map fun e => (t, e)
  heap := kh.filterMap fun n => if hide n then none else (entL r S l n).bind fun e => if sub e.g G then some (n, e) else none
  next := lo
  nt := S.nt
theorem viewOf_tmps {r : RS} {ops : List Oper} {S : St} {l : List Nat} {hide hideT : Nat → Bool} {kt kh : List Nat} {G : List E} {lo : Nat} {t : Nat} {e : Ent} (h : find (viewOf r ops S l hide hideT kt kh G lo).tmps t = some e) : tmpL r ops S l t = some e ∧ hideT t = false := by
  have := find_mem h
  simp only [viewOf, List.mem_filterMap] at this
  obtain ⟨k, _, hk⟩ := this
  split at hk
  · cases hk
  · rename_i hh
    rw [Option.map_eq_some_iff] at hk
    obtain ⟨x, hx, hk⟩ := hk
    cases hk
    exact ⟨hx, by simpa using hh⟩
theorem viewOf_heap {r : RS} {ops : List Oper} {S : St} {l : List Nat} {hide hideT : Nat → Bool} {kt kh : List Nat} {G : List E} {lo : Nat} {n : Nat} {e : HEnt} (h : find (viewOf r ops S l hide hideT kt kh G lo).heap n = some e) : entL r S l n = some e ∧ hide n = false ∧ sub e.g G = true := by
  have := find_mem h
  simp only [viewOf, List.mem_filterMap] at this
  obtain ⟨k, _, hk⟩ := this
  split at hk
  · cases hk
  · rename_i hh
    rw [Option.bind_eq_some_iff] at hk
    obtain ⟨x, hx, hk⟩ := hk
    split at hk
    · rename_i hs
      cases hk
      exact ⟨hx, by simpa using hh, hs⟩
    · cases hk
end Go.Proofs.Ytdfpenjhpemokaa.Sx
/-
  A verified symbolic executor, part 19: regions whose order is drawn: one operation more.
-/
namespace Go.Proofs.Ytdfpenjhpemokaa.Sx
open Go.RowKit (Below)

structure GRel (ρ : Env) (b : Bd) (bs : Nat → Prop) (w0 w : World) (Tm : Nat → Option Ent) (Hp : Nat → Option HEnt) (N : Nat → Prop) (tm : Array Value) (nt : Nat) : Prop where
  mem : ∀ n h, Hp n = some h → allB ρ h.g → N n ∧ h.blk.ok ρ b bs w n ∧ SV.okL ρ N h.blk.cells
  inj : ∀ n m h k, Hp n = some h → Hp m = some k → allB ρ h.g → allB ρ k.g → h.blk.own = true → k.blk.own = true → b.β n = b.β m → n = m
  tmps : ∀ i e, Tm i = some e → e.at ρ b N tm i
  below : Kept bs w0 w
  base : ∀ k, bs k → k < w.heap.size
  nt : tm.size = nt
  kept : Mem ρ bs w0
def Fr (ρ : Env) (b : Bd) (base : Nat → Prop) (w : World) (V : St) : Nat → Prop := fun k => base k ∨ (k < w.heap.size ∧ ∀ n h, find V.heap n = some h → allB ρ h.g → h.blk.own = true → b.β n ≠ k)
def viewChk (V : St) : Bool :=
  V.heap.all (fun x => decide (x.1 < V.next) && (SV.namesL x.2.blk.cells).all fun m => decide (m < V.next)) && V.tmps.all (fun x => x.2.sv.names.all fun m => decide (m < V.next))
theorem GRel.view {ρ : Env} {b : Bd} {base : Nat → Prop} {w0 w : World} {Tm : Nat → Option Ent} {Hp : Nat → Option HEnt} {N : Nat → Prop} {tm : Array Value} {nt : Nat} (h : GRel ρ b base w0 w Tm Hp N tm nt) {V : St} (hT : ∀ t e, find V.tmps t = some e → Tm t = some e) (hH : ∀ n e, find V.heap n = some e → Hp n = some e) (hn : V.nt = nt) (hc : viewChk V = true) :
    Rel ρ b (Fr ρ b base w V) w w V tm := by
  unfold viewChk at hc
  simp only [Bool.and_eq_true, List.all_eq_true, decide_eq_true_eq] at hc
  obtain ⟨c1, c2⟩ := hc
  refine ⟨⟨fun n e hf hg => ?_, fun n m e k hf hk hg hgk ho hok heq => h.inj n m e k (hH n e hf) (hH m k hk) hg hgk ho hok heq⟩, fun t e hf => ?_, Kept.refl _ _, fun k hk => hk.elim (h.base k) (fun x => x.1), h.nt.trans hn.symm, (h.kept.kept h.below).mono fun k hk => .inl hk⟩
  · obtain ⟨m1, m2, m3⟩ := h.mem n e (hH n e hf) hg
    have hm := c1 _ (find_mem hf)
    refine ⟨hm.1, m2.turn (fun ho hF => ?_) (fun ho => .inl (m2.farBase ho)), SV.okL_names _ m3 hm.2⟩
    rcases hF with hF | hF
    · exact (m2.base ho).1 hF
    · exact hF.2 n e hf hg ho rfl
  · obtain ⟨h1, h2⟩ := h.tmps t e (hT t e hf)
    refine ⟨fun hg => ⟨(h1 hg).1, SV.ok_names _ (h1 hg).2 (fun m hm => c2 _ (find_mem hf) m hm)⟩, h2⟩

def Bd.join (b b' : Bd) (lo hi : Nat) : Bd := ⟨fun n => if lo ≤ n ∧ n < hi then b'.β n else b.β n, fun n => if lo ≤ n ∧ n < hi then b'.o n else b.o n, fun n => if lo ≤ n ∧ n < hi then b'.κ n else b.κ n⟩
theorem Bd.join_old {b b' : Bd} {lo hi : Nat} {N : Nat → Prop} (h : ∀ n, N n → ¬ (lo ≤ n ∧ n < hi)) : Agree b (b.join b' lo hi) N := by
  intro n hn
  simp [Bd.join, h n hn]
theorem Bd.join_new {b b' : Bd} {lo hi : Nat} (h : Agree b b' (· < lo)) : Agree b' (b.join b' lo hi) (· < hi) := by
  intro n hn
  unfold Bd.join
  by_cases hl : lo ≤ n
  · have : lo ≤ n ∧ n < hi := ⟨hl, hn⟩
    simp [this]
  · have : ¬ (lo ≤ n ∧ n < hi) := fun hc => hl hc.1
    obtain ⟨h1, h2, h3⟩ := h n (Nat.lt_of_not_le hl)
    simp [this, h1, h2, h3]

theorem GRel.step {ρ : Env} {b b' : Bd} {base : Nat → Prop} {w0 w w' : World} {Tm Tm' : Nat → Option Ent} {Hp Hp' : Nat → Option HEnt} {N N' : Nat → Prop} {a : Act} {nt : Nat} (h : GRel ρ b base w0 w Tm Hp N a.tmps nt)
    {V U : St} (hV : ∀ n e, find V.heap n = some e → Hp n = some e) {dst : Option Tmp} {val : Value} (hag : Agree b b' (· < V.next)) (hr : Rel ρ b' (Fr ρ b base w V) w w' U (a.put dst val).tmps) (hle : V.next ≤ U.next) (hVn : ∀ n e, find V.heap n = some e → n < V.next)
    (hT : ∀ t e, Tm' t = some e → (dst = some t ∧ find U.tmps t = some e ∧ ∀ m ∈ e.sv.names, N' m) ∨ (dst ≠ some t ∧ Tm t = some e))
    (hH : ∀ n e, Hp' n = some e → allB ρ e.g →
      (V.next ≤ n ∧ find U.heap n = some e ∧ e.blk.own = true ∧ ∀ m ∈ SV.namesL e.blk.cells, N' m)
      ∨ (∃ e0 u, find V.heap n = some e0 ∧ allB ρ e0.g ∧ e0.blk.own = true ∧ find U.heap n = some u ∧ allB ρ u.g ∧ u.blk.kind = e0.blk.kind ∧ u.blk.elem = e0.blk.elem ∧ e.blk = u.blk ∧ ∀ m ∈ SV.namesL e.blk.cells, N' m)
      ∨ (Hp n = some e ∧ ∀ e0, find V.heap n = some e0 → e0.blk.own = false))
    (hN1 : ∀ n, N n → N' n) (hN2 : ∀ n, V.next ≤ n → n < U.next → N' n) (hN3 : ∀ n, N n → ¬ (V.next ≤ n ∧ n < U.next)) (hnt : (a.put dst val).tmps.size = a.tmps.size) :
    GRel ρ (b.join b' V.next U.next) base w0 w' Tm' Hp' N' (a.put dst val).tmps nt := by
  have ho : Agree b (b.join b' V.next U.next) N := Bd.join_old hN3
  have hn := Bd.join_new (hi := U.next) hag
  have hlt : ∀ n e, Hp n = some e → allB ρ e.g → b.β n < w.heap.size := fun n e hf hg => (h.mem n e hf hg).2.1.lt h.base
  -- a block that is not seen stays
  have hkeep : ∀ n e, Hp n = some e → allB ρ e.g → (∀ e0, find V.heap n = some e0 → e0.blk.own = false) → Fr ρ b base w V (b.β n) := by
    intro n e hf hg hs
    by_cases hown : e.blk.own = true
    · refine .inr ⟨hlt n e hf hg, fun m k hk hgk hok heq => ?_⟩
      have := h.inj m n k e (hV m k hk) hf hgk hg hok hown heq
      subst this
      rw [hs k hk] at hok
      cases hok
    · exact .inl ((h.mem n e hf hg).2.1.farBase (by simpa using hown))
  -- where a name of the new state lies
  have hcase : ∀ n e, Hp' n = some e → allB ρ e.g → N' n ∧ e.blk.ok ρ (b.join b' V.next U.next) base w' n ∧ SV.okL ρ N' e.blk.cells := by
    intro n e hf hg
    rcases hH n e hf hg with ⟨h1, h2, h3, h4⟩ | ⟨e0, u, h1, h2, h3, h4, h5, h6, h7, h8, h9⟩ | ⟨h1, h2⟩
    · obtain ⟨m1, m2, m3⟩ := hr.heap.mem n e h2 hg
      have hb := m2.base h3
      refine ⟨hN2 n h1 m1, ?_, SV.okL_names _ m3 h4⟩
      have := m2.keep m1 m3 hn rfl
      refine this.turn (fun _ hc => ?_) (fun hc => by rw [h3] at hc; cases hc)
      rw [(hn n m1).1] at hc
      exact hb.1 (.inl hc)
    · obtain ⟨m1, m2, m3⟩ := hr.heap.mem n u h4 h5
      have huo : u.blk.own = true := by simpa [Blk.own, h6] using h3
      have hb := m2.base huo
      have hNn : N n := (h.mem n e0 (hV n e0 h1) h2).1
      rw [h8] at h9 ⊢
      refine ⟨hN1 n hNn, ?_, SV.okL_names _ m3 h9⟩
      have := m2.keep m1 m3 hn rfl
      refine this.turn (fun _ hc => ?_) (fun hc => by rw [huo] at hc; cases hc)
      rw [(hn n m1).1] at hc
      exact hb.1 (.inl hc)
    · obtain ⟨m1, m2, m3⟩ := h.mem n e h1 hg
      exact ⟨hN1 n m1, m2.keep m1 m3 ho (hr.below.block _ (hkeep n e h1 hg h2)), SV.okL_mono hN1 _ m3⟩
  refine ⟨hcase, ?_, ?_, h.below.trans (hr.below.mono fun k hk => .inl hk), fun k hk => Nat.lt_of_lt_of_le (h.base k hk) hr.below.size, hnt.trans h.nt, h.kept⟩
  · -- no two names for one block
    have hseen : ∀ n e, Hp' n = some e → allB ρ e.g → e.blk.own = true → (∃ u, find U.heap n = some u ∧ allB ρ u.g ∧ u.blk.own = true ∧ n < U.next) ∨ (Hp n = some e ∧ ∀ e0, find V.heap n = some e0 → e0.blk.own = false) := by
      intro n e hf hg hoe
      rcases hH n e hf hg with ⟨h1, h2, h3, _⟩ | ⟨e0, u, h1, h2, h3, h4, h5, h6, h7, h8, _⟩ | h1
      · exact .inl ⟨e, h2, hg, h3, (hr.heap.mem n e h2 hg).1⟩
      · exact .inl ⟨u, h4, h5, by simpa [Blk.own, h6] using h3, (hr.heap.mem n u h4 h5).1⟩
      · exact .inr h1
    have hdiff : ∀ n u m e, find U.heap n = some u → allB ρ u.g → u.blk.own = true → n < U.next → Hp m = some e → allB ρ e.g → (∀ e0, find V.heap m = some e0 → e0.blk.own = false) → (b.join b' V.next U.next).β n ≠ (b.join b' V.next U.next).β m := by
      intro n u m e hu hgu hou hnu hm hgm hs heq
      have hb := (hr.heap.mem n u hu hgu).2.1.base hou
      rw [(hn n hnu).1, (ho m (h.mem m e hm hgm).1).1] at heq
      exact hb.1 (heq ▸ hkeep m e hm hgm hs)
    intro n m e k hf hk hg hgk hoe hok heq
    rcases hseen n e hf hg hoe with ⟨u, u1, u2, u3, u4⟩ | ⟨p1, p2⟩
    · rcases hseen m k hk hgk hok with ⟨v, v1, v2, v3, v4⟩ | ⟨q1, q2⟩
      · rw [(hn n u4).1, (hn m v4).1] at heq
        exact hr.heap.inj n m u v u1 v1 u2 v2 u3 v3 heq
      · exact absurd heq (hdiff n u m k u1 u2 u3 u4 q1 hgk q2)
    · rcases hseen m k hk hgk hok with ⟨v, v1, v2, v3, v4⟩ | ⟨q1, q2⟩
      · exact absurd heq.symm (hdiff m v n e v1 v2 v3 v4 p1 hg p2)
      · rw [(ho n (h.mem n e p1 hg).1).1, (ho m (h.mem m k q1 hgk).1).1] at heq
        exact h.inj n m e k p1 q1 hg hgk hoe hok heq
  · intro t e hf
    rcases hT t e hf with ⟨h1, h2, h3⟩ | ⟨h1, h2⟩
    · obtain ⟨t1, t2⟩ := hr.tmps t e h2
      refine ⟨fun hg => ?_, t2⟩
      obtain ⟨t3, t4⟩ := t1 hg
      exact ⟨by rw [SV.den_agree hn _ t4]; exact t3, SV.ok_names _ t4 h3⟩
    · have hsame : (a.put dst val).tmps[t]? = a.tmps[t]? := by
        cases dst with
        | none => rfl
        | some d =>
          simp only [Act.put]
          rw [Array.getElem?_setIfInBounds_ne (fun hc => h1 (by rw [hc]))]
      obtain ⟨t1, t2⟩ := h.tmps t e h2
      refine ⟨fun hg => ?_, fun hg => by rw [hsame]; exact t2 hg⟩
      obtain ⟨t3, t4⟩ := t1 hg
      exact ⟨by rw [hsame, SV.den_agree ho _ t4]; exact t3, SV.ok_mono hN1 _ t4⟩
end Go.Proofs.Ytdfpenjhpemokaa.Sx
/-
  A verified symbolic executor, part 20: regions whose order is drawn: the canonical run, and its parts.
-/
namespace Go.Proofs.Ytdfpenjhpemokaa.Sx
open Go.RowKit (Below)

def L (N : Nat) (p : Nat → Bool) : List Nat := (List.range N).filter p
theorem L_mem {N : Nat} {p : Nat → Bool} {j : Nat} : j ∈ L N p ↔ j < N ∧ p j = true := by simp [L]
theorem L_cons (N : Nat) (p : Nat → Bool) : L (N + 1) p = L N p ++ if p N then [N] else [] := by
  simp [L, List.range_succ, List.filter_append, List.filter_cons]

theorem lastW_app (a c : List (Nat × List SV)) (n : Nat) : lastW (a ++ c) n = match lastW c n with | some x => some x | none => lastW a n := by
  induction a with
  | nil => simp only [List.nil_append, lastW]; cases lastW c n <;> rfl
  | cons x a ih =>
    obtain ⟨m, y⟩ := x
    simp only [List.cons_append, lastW, ih]
    cases lastW c n <;> rfl
theorem lastW_none {l : List (Nat × List SV)} {n : Nat} (h : ∀ c, (n, c) ∉ l) : lastW l n = none := by
  induction l with
  | nil => rfl
  | cons x l ih =>
    obtain ⟨m, y⟩ := x
    simp only [lastW, ih (fun c hc => h c (.tail _ hc))]
    split
    · rename_i hm; subst hm; exact absurd (.head _) (h y)
    · rfl
theorem lastW_some {l : List (Nat × List SV)} {n : Nat} {c : List SV} (h : lastW l n = some c) : (n, c) ∈ l := by
  induction l with
  | nil => cases h
  | cons x l ih =>
    obtain ⟨m, y⟩ := x
    simp only [lastW] at h
    split at h
    · rename_i d hd; cases h; exact .tail _ (ih hd)
    · split at h
      · rename_i hm; cases h; subst hm; exact .head _
      · cases h
theorem lastW_has {l : List (Nat × List SV)} {n : Nat} {c : List SV} (h : (n, c) ∈ l) : ∃ d, lastW l n = some d := by
  induction l with
  | nil => cases h
  | cons x l ih =>
    obtain ⟨m, y⟩ := x
    simp only [lastW]
    cases h with
    | head => cases lastW l n <;> simp
    | tail _ h => obtain ⟨d, hd⟩ := ih h; exact ⟨d, by rw [hd]⟩
theorem wrsAt_some {r : RS} {j : Nat} {x : OR} (h : r j = some x) : wrsAt r j = wrote x := by unfold wrsAt; rw [h]
theorem wrsAt_none {r : RS} {j : Nat} (h : r j = none) : wrsAt r j = [] := by unfold wrsAt; rw [h]
theorem wrsOf_mem {r : RS} {l : List Nat} {n : Nat} {c : List SV} (h : (n, c) ∈ wrsOf r l) : ∃ j ∈ l, ∃ x, r j = some x ∧ (n, c) ∈ wrote x := by
  unfold wrsOf at h
  rw [List.mem_flatMap] at h
  obtain ⟨j, hj, hm⟩ := h
  cases hr : r j with
  | none => rw [wrsAt_none hr] at hm; cases hm
  | some x => rw [wrsAt_some hr] at hm; exact ⟨j, hj, x, hr, hm⟩
theorem wrote_mem {x : OR} {n : Nat} {c : List SV} (h : (n, c) ∈ wrote x) : ∃ e u, find x.V.heap n = some e ∧ find x.U.heap n = some u ∧ e.blk.own = true ∧ c = u.blk.cells := by
  unfold wrote at h
  rw [List.mem_filterMap] at h
  obtain ⟨y, _, hy⟩ := h
  split at hy
  · rename_i e u h1 h2
    split at hy
    · rename_i hc
      cases hy
      simp only [Bool.and_eq_true] at hc
      exact ⟨e, u, h1, h2, hc.1, rfl⟩
    · cases hy
  · cases hy
theorem lastW_part {r : RS} {n : Nat} {p q : Nat → Bool} : ∀ N, (∀ j, j < N → q j = true → p j = true) → (∀ j, j < N → p j = true → q j = false → ∀ x, r j = some x → ∀ c, (n, c) ∉ wrote x) → lastW (wrsOf r (L N p)) n = lastW (wrsOf r (L N q)) n := by
  intro N
  induction N with
  | zero => intro _ _; rfl
  | succ N ih =>
    intro h1 h2
    have ih' := ih (fun j hj => h1 j (by omega)) (fun j hj => h2 j (by omega))
    rw [L_cons, L_cons]
    unfold wrsOf at ih' ⊢
    rw [List.flatMap_append, List.flatMap_append, lastW_app, lastW_app, ih']
    cases hp : p N with
    | false =>
      cases hq : q N with
      | false => rfl
      | true => rw [h1 N (by omega) hq] at hp; cases hp
    | true =>
      cases hq : q N with
      | true => rfl
      | false =>
        have : lastW (List.flatMap (wrsAt r) (if true = true then [N] else [])) n = none := by
          refine lastW_none fun c hc => ?_
          simp only [if_true, List.flatMap_cons, List.flatMap_nil, List.append_nil] at hc
          cases hr : r N with
          | none => rw [wrsAt_none hr] at hc; cases hc
          | some x => rw [wrsAt_some hr] at hc; exact h2 N (by omega) hp hq x hr c hc
        rw [this]
        simp [lastW]
theorem lastW_at {r : RS} {n i : Nat} {p : Nat → Bool} {x : OR} (hx : r i = some x) : ∀ N, i < N → p i = true → (∀ j, j < N → i < j → p j = true → ∀ y, r j = some y → ∀ c, (n, c) ∉ wrote y) → (∃ c, (n, c) ∈ wrote x) → lastW (wrsOf r (L N p)) n = lastW (wrote x) n := by
  intro N
  induction N with
  | zero => intro h; omega
  | succ N ih =>
    intro hi hp h2 hc
    rw [L_cons]
    unfold wrsOf at ih ⊢
    rw [List.flatMap_append, lastW_app]
    by_cases he : i = N
    · subst he
      rw [hp]
      simp only [if_true, List.flatMap_cons, List.flatMap_nil, List.append_nil, wrsAt_some hx]
      obtain ⟨c, hc⟩ := hc
      obtain ⟨d, hd⟩ := lastW_has hc
      rw [hd]
    · have : lastW (List.flatMap (wrsAt r) (if p N = true then [N] else [])) n = none := by
        refine lastW_none fun c hc => ?_
        split at hc
        · rename_i hpN
          simp only [List.flatMap_cons, List.flatMap_nil, List.append_nil] at hc
          cases hr : r N with
          | none => rw [wrsAt_none hr] at hc; cases hc
          | some y => rw [wrsAt_some hr] at hc; exact h2 N (by omega) (by omega) hpN y hr c hc
        · cases hc
      rw [this]
      exact ih (by omega) hp (fun j hj => h2 j (by omega)) hc

theorem news_mem {x : OR} {n : Nat} {e : HEnt} (h : find (news x) n = some e) : x.V.next ≤ n ∧ n < x.U.next ∧ e.blk.own = true ∧ find x.U.heap n = some e := by
  obtain ⟨y, h1, h2⟩ := restrict_mem (find_mem h)
  split at h2
  · rename_i hc
    cases h2
    simp only [Bool.and_eq_true, decide_eq_true_eq] at hc
    exact ⟨hc.1.1, hc.1.2, hc.2, h1⟩
  · cases h2
theorem baseE_cases {r : RS} {S : St} {n : Nat} {e : HEnt} : ∀ {l : List Nat}, baseE r S l n = some e → (∃ j ∈ l, ∃ x, r j = some x ∧ find (news x) n = some e) ∨ find S.heap n = some e := by
  intro l
  induction l with
  | nil => intro h; exact .inr h
  | cons j l ih =>
    intro h
    simp only [baseE] at h
    split at h
    · rename_i e' he
      cases h
      rw [Option.bind_eq_some_iff] at he
      obtain ⟨x, hx, hf⟩ := he
      exact .inl ⟨j, .head _, x, hx, hf⟩
    · rcases ih h with ⟨k, hk, x, hx⟩ | h
      · exact .inl ⟨k, .tail _ hk, x, hx⟩
      · exact .inr h
theorem baseE_new {r : RS} {S : St} {n : Nat} {e : HEnt} {j : Nat} {x : OR} (hx : r j = some x) (hf : find (news x) n = some e) : ∀ {l : List Nat}, j ∈ l → (∀ k ∈ l, k ≠ j → ∀ y, r k = some y → find (news y) n = none) → baseE r S l n = some e := by
  intro l
  induction l with
  | nil => intro h; cases h
  | cons k l ih =>
    intro hj hu
    simp only [baseE]
    by_cases hk : k = j
    · subst hk
      rw [hx]
      simp only [Option.bind_some, hf]
    · have hn : ((r k).bind fun x => find (news x) n) = none := by
        cases hr : r k with
        | none => rfl
        | some y => simp only [Option.bind_some]; exact hu k (.head _) hk y hr
      rw [hn]
      refine ih ?_ (fun m hm => hu m (.tail _ hm))
      cases hj with
      | head => exact absurd rfl hk
      | tail _ h => exact h
theorem baseE_old {r : RS} {S : St} {n : Nat} : ∀ {l : List Nat}, (∀ k ∈ l, ∀ y, r k = some y → find (news y) n = none) → baseE r S l n = find S.heap n := by
  intro l
  induction l with
  | nil => intro _; rfl
  | cons k l ih =>
    intro hu
    simp only [baseE]
    have hn : ((r k).bind fun x => find (news x) n) = none := by
      cases hr : r k with
      | none => rfl
      | some y => simp only [Option.bind_some]; exact hu k (.head _) y hr
    rw [hn]
    exact ih (fun m hm => hu m (.tail _ hm))
end Go.Proofs.Ytdfpenjhpemokaa.Sx
/-
  A verified symbolic executor, part 21: regions whose order is drawn: the run.
-/
namespace Go.Proofs.Ytdfpenjhpemokaa.Sx
open Go.RowKit (Below)

def before (bl : List Nat) (i j : Nat) : Bool := Nat.testBit (bl[i]?.getD 0) j
def hidden (bl : List Nat) (tg : List (List Nat)) (N i n : Nat) : Bool := (List.range N).any fun j => !(j == i) && (tg[j]?.getD []).contains n && !(before bl i j) && !(before bl j i)
def hiddenT (ops : List Oper) (bl : List Nat) (i t : Nat) : Bool := match ownT ops t with
  | some j => !(j == i) && !(before bl i j) && !(before bl j i)
  | none => false
def inRange (r : RS) (S : St) (l : List Nat) (n : Nat) : Bool := decide (n < S.next) || l.any fun j => match r j with
  | some x => decide (x.V.next ≤ n) && decide (n < x.U.next)
  | none => false
def sameEs : List E → List E → Bool
  | [], [] => true
  | a :: l, c :: m => a.same c && sameEs l m
  | _, _ => false
theorem sameEs_eq : ∀ {l m : List E}, sameEs l m = true → l = m := by
  intro l
  induction l with
  | nil => intro m h; cases m <;> simp [sameEs] at h; rfl
  | cons a l ih => intro m h; cases m <;> simp [sameEs] at h; rw [E.same_eq h.1, ih h.2]
def okStep (r : RS) (S : St) (l : List Nat) (tgi : List Nat) (strict : Bool) (x : OR) (dst : Option Tmp) : Bool :=
  let al := fun n => inRange r S l n || (decide (x.V.next ≤ n) && decide (n < x.U.next))
  decide (x.V.next ≤ x.U.next) &&
  x.V.heap.all (fun y => match find x.V.heap y.1 with
    | some e => !e.blk.own || (match find x.U.heap y.1 with
      | some u => sameEs u.g e.g && decide (u.blk.kind = e.blk.kind) && decide (u.blk.elem = e.blk.elem) && (SV.namesL u.blk.cells).all al
      | none => false)
    | none => true) &&
  (match dst with
    | some d => match find x.U.tmps d with
      | some e => e.sv.names.all al
      | none => true
    | none => true) &&
  (news x).all (fun y => (SV.namesL y.2.blk.cells).all al) &&
  (!strict || (wrote x).all (fun y => tgi.contains y.1))
end Go.Proofs.Ytdfpenjhpemokaa.Sx
/-
  A verified symbolic executor, part 22: regions whose order is drawn: why every order gives the same.
-/
namespace Go.Proofs.Ytdfpenjhpemokaa.Sx
open Go.RowKit (Below)

structure Ctx (P : Program) (et : TypeId) (h : Handler) (pc : List E) (ops : Array Oper) (S : St) (bl : List Nat) (tg : List (List Nat)) (r : RS) (vs : List VC) : Prop where
  all : ∀ i, i < ops.size → ∃ o x vi, ops[i]? = some o ∧ r i = some x ∧ (∃ kt kh G, x.V = viewOf r ops.toList S (L ops.size (before bl i)) (hidden bl tg ops.size i) (hiddenT ops.toList bl i) kt kh G x.V.next) ∧ viewChk x.V = true ∧ stepOp P et h pc ops x.V o = some (.leaf x.U, vi) ∧ okStep r S (L ops.size (before bl i)) (tg[i]?.getD []) true x o.dst = true ∧ ∀ v ∈ vi, v ∈ vs
  mono : ∀ j i x y, j < i → r j = some x → r i = some y → x.U.next ≤ y.V.next
  low : ∀ i x, r i = some x → S.next ≤ x.V.next ∧ x.V.next ≤ x.U.next
  edge : ∀ i o, ops[i]? = some o → (∀ j ∈ edgesOf o, j < i) ∧ (∀ j, before bl i j = true → j < i ∧ ∃ e ∈ edgesOf o, e = j ∨ before bl e j = true) ∧ (∀ t, o.dst = some t → ownT ops.toList t = some i)
  heap : ∀ n e, find S.heap n = some e → n < S.next

section
variable {P : Program} {et : TypeId} {h : Handler} {pc : List E} {ops : Array Oper} {S : St} {bl : List Nat} {tg : List (List Nat)} {r : RS} {vs : List VC}

theorem Ctx.range (c : Ctx P et h pc ops S bl tg r vs) {i : Nat} {x : OR} (hi : i < ops.size) (hx : r i = some x) {ρ : Env} {n : Nat} {e : HEnt} (hf : find (news x) n = some e) : x.V.next ≤ n := (news_mem hf).1

def NS (S : St) (r : RS) (D : Nat → Bool) (N : Nat) (n : Nat) : Prop := n < S.next ∨ ∃ j, j < N ∧ D j = true ∧ ∃ x, r j = some x ∧ x.V.next ≤ n ∧ n < x.U.next
def Closed (bl : List Nat) (N : Nat) (D : Nat → Bool) : Prop := ∀ i, i < N → D i = true → ∀ j, before bl i j = true → D j = true
theorem inRange_ok {l : List Nat} {n : Nat} (hn : inRange r S l n = true) : n < S.next ∨ ∃ j ∈ l, ∃ x, r j = some x ∧ x.V.next ≤ n ∧ n < x.U.next := by
  unfold inRange at hn
  simp only [Bool.or_eq_true, decide_eq_true_eq, List.any_eq_true] at hn
  rcases hn with hn | ⟨j, hj, hn⟩
  · exact .inl hn
  · split at hn
    · rename_i x hx
      simp only [Bool.and_eq_true, decide_eq_true_eq] at hn
      exact .inr ⟨j, hj, x, hx, hn⟩
    · cases hn
structure StepOk (r : RS) (S : St) (l : List Nat) (tgi : List Nat) (x : OR) (dst : Option Tmp) : Prop where
  le : x.V.next ≤ x.U.next
  seen : ∀ n e, find x.V.heap n = some e → e.blk.own = true → ∃ u, find x.U.heap n = some u ∧ u.g = e.g ∧ u.blk.kind = e.blk.kind ∧ u.blk.elem = e.blk.elem ∧ ∀ m ∈ SV.namesL u.blk.cells, inRange r S l m = true ∨ (x.V.next ≤ m ∧ m < x.U.next)
  dst : ∀ d e, dst = some d → find x.U.tmps d = some e → ∀ m ∈ e.sv.names, inRange r S l m = true ∨ (x.V.next ≤ m ∧ m < x.U.next)
  news : ∀ n e, find (news x) n = some e → ∀ m ∈ SV.namesL e.blk.cells, inRange r S l m = true ∨ (x.V.next ≤ m ∧ m < x.U.next)
  wrote : ∀ n cs, (n, cs) ∈ wrote x → n ∈ tgi
theorem okStep_ok {l : List Nat} {tgi : List Nat} {x : OR} {dst : Option Tmp} (hk : okStep r S l tgi true x dst = true) : StepOk r S l tgi x dst := by
  unfold okStep at hk
  simp only [Bool.and_eq_true, decide_eq_true_eq, List.all_eq_true, Bool.not_true, Bool.false_or, Bool.or_eq_true] at hk
  obtain ⟨⟨⟨⟨k1, k2⟩, k3⟩, k4⟩, k5⟩ := hk
  refine ⟨k1, fun n e hf ho => ?_, fun d e hd hf m hm => ?_, fun n e hf m hm => k4 _ (find_mem hf) m hm, fun n cs hm => by simpa using k5 _ hm⟩
  · have := k2 _ (find_mem hf)
    rw [hf] at this
    dsimp only at this
    rw [Bool.or_eq_true] at this
    rcases this with h1 | h1
    · rw [ho] at h1; simp at h1
    · split at h1
      · rename_i u hu
        simp only [Bool.and_eq_true, decide_eq_true_eq, List.all_eq_true, Bool.or_eq_true] at h1
        exact ⟨u, hu, sameEs_eq h1.1.1.1, h1.1.1.2, h1.1.2, h1.2⟩
      · cases h1
  · subst hd
    simp only [hf, List.all_eq_true, Bool.or_eq_true, Bool.and_eq_true, decide_eq_true_eq] at k3
    exact k3 m hm
theorem hidden_not {N i n j : Nat} (hh : hidden bl tg N i n = false) (hj : j < N) (hne : j ≠ i) (ht : n ∈ tg[j]?.getD []) : before bl i j = true ∨ before bl j i = true := by
  unfold hidden at hh
  rw [List.any_eq_false] at hh
  have := hh j (by simpa using hj)
  simp only [Bool.and_eq_true, Bool.not_eq_true', beq_eq_false_iff_ne, not_and, Bool.not_eq_true, Bool.not_eq_false] at this
  by_cases hb : before bl i j = true
  · exact .inl hb
  · exact .inr (this ⟨⟨hne, by simpa using ht⟩, by simpa using hb⟩)

theorem Ctx.seen (c : Ctx P et h pc ops S bl tg r vs) {j : Nat} (hj : j < ops.size) {x : OR} (hx : r j = some x) {n : Nat} {e : HEnt} (hf : find x.V.heap n = some e) :
    entL r S (L ops.size (before bl j)) n = some e ∧ hidden bl tg ops.size j n = false ∧ n < x.V.next ∧ (n < S.next ∨ ∃ k, k < ops.size ∧ before bl j k = true ∧ ∃ y, r k = some y ∧ y.V.next ≤ n ∧ n < y.U.next) := by
  obtain ⟨o, x', vi, ho, hx', ⟨kt, kh, G, hV⟩, hchk, hst, hok, hvs⟩ := c.all j hj
  rw [hx] at hx'
  cases hx'
  have hchk' := hchk
  unfold viewChk at hchk'
  simp only [Bool.and_eq_true, List.all_eq_true, decide_eq_true_eq] at hchk'
  have hn := (hchk'.1 _ (find_mem hf)).1
  have hf2 := hf
  rw [hV] at hf2
  obtain ⟨h1, h2, h3⟩ := viewOf_heap hf2
  refine ⟨h1, h2, hn, ?_⟩
  unfold entL at h1
  rw [Option.map_eq_some_iff] at h1
  obtain ⟨e0, he0, _⟩ := h1
  rcases baseE_cases he0 with ⟨k, hk, y, hy, hfy⟩ | hs
  · rw [L_mem] at hk
    have hbl := ((c.edge j o ho).2.1 k hk.2).1
    have h4 := (news_mem hfy).1
    have this := (news_mem hfy).2.1
    exact .inr ⟨k, hk.1, hk.2, y, hy, h4, this⟩
  · exact .inl (c.heap n e0 hs)

theorem Ctx.uniq (c : Ctx P et h pc ops S bl tg r vs) {j k : Nat} {x y : OR} {n : Nat} (hx : r j = some x) (hy : r k = some y) (h1 : x.V.next ≤ n) (h2 : n < x.U.next) (h3 : y.V.next ≤ n) (h4 : n < y.U.next) : j = k := by
  rcases Nat.lt_trichotomy j k with hl | he | hl
  · have := c.mono j k x y hl hx hy; omega
  · exact he
  · have := c.mono k j y x hl hy hx; omega
theorem Ctx.base_new (c : Ctx P et h pc ops S bl tg r vs) {l : List Nat} {j : Nat} {x : OR} {n : Nat} {e : HEnt} (hj : j ∈ l) (hx : r j = some x) (hf : find (news x) n = some e) : baseE r S l n = some e :=
  baseE_new hx hf hj fun k _ hk y hy => by
    cases hq : find (news y) n with
    | none => rfl
    | some e' =>
      have a := news_mem hf
      have b := news_mem hq
      exact absurd (c.uniq hy hx b.1 b.2.1 a.1 a.2.1) hk
theorem Ctx.base_old (c : Ctx P et h pc ops S bl tg r vs) {l : List Nat} {n : Nat} (hn : n < S.next) : baseE r S l n = find S.heap n :=
  baseE_old fun k _ y hy => by
    cases hq : find (news y) n with
    | none => rfl
    | some e' => have := (news_mem hq).1; have := (c.low k y hy).1; omega
theorem Ctx.wroteTg (c : Ctx P et h pc ops S bl tg r vs) {j : Nat} (hj : j < ops.size) {x : OR} (hx : r j = some x) {n : Nat} {cs : List SV} (hw : (n, cs) ∈ wrote x) : n ∈ tg[j]?.getD [] := by
  obtain ⟨o, x', vi, ho, hx', _, _, _, hok, _⟩ := c.all j hj
  rw [hx] at hx'
  cases hx'
  exact (okStep_ok hok).wrote n cs hw
theorem applyW_eq {l m : List Nat} {n : Nat} (hl : lastW (wrsOf r l) n = lastW (wrsOf r m) n) (e : HEnt) : applyW r l n e = applyW r m n e := by unfold applyW; rw [hl]
theorem Ctx.writers (c : Ctx P et h pc ops S bl tg r vs) {D : Nat → Bool} (hcl : Closed bl ops.size D) {i : Nat} (hi : i < ops.size) (hD : D i = false) {n : Nat} (hh : hidden bl tg ops.size i n = false) {j : Nat} (hj : j < ops.size) (hDj : D j = true) {x : OR} (hx : r j = some x) {cs : List SV} (hw : (n, cs) ∈ wrote x) : before bl i j = true := by
  rcases hidden_not hh hj (fun e => by subst e; rw [hD] at hDj; cases hDj) (c.wroteTg hj hx hw) with hb | hb
  · exact hb
  · have := hcl j hj hDj i hb
    rw [hD] at this; cases this
theorem Ctx.view_heap (c : Ctx P et h pc ops S bl tg r vs) {D : Nat → Bool} (hcl : Closed bl ops.size D) {i : Nat} (hi : i < ops.size) (hD : D i = false) (hb : ∀ j, before bl i j = true → D j = true) {x : OR} (hx : r i = some x) {n : Nat} {e : HEnt} (hf : find x.V.heap n = some e) : entL r S (L ops.size D) n = some e := by
  obtain ⟨h1, h2, h3, h4⟩ := c.seen hi hx hf
  unfold entL at h1 ⊢
  rw [Option.map_eq_some_iff] at h1 ⊢
  obtain ⟨e0, he0, hae⟩ := h1
  refine ⟨e0, ?_, ?_⟩
  · rcases baseE_cases he0 with ⟨k, hk, y, hy, hfy⟩ | hs
    · rw [L_mem] at hk
      exact c.base_new (L_mem.2 ⟨hk.1, hb k hk.2⟩) hy hfy
    · rw [c.base_old (c.heap n e0 hs)]; exact hs
  · rw [← hae]
    refine applyW_eq (lastW_part _ (fun j hj hq => hb j hq) (fun j hj hDj hq y hy cs hw => ?_)) e0
    rw [c.writers hcl hi hD h2 hj hDj hy hw] at hq
    cases hq
theorem Ctx.view_tmps (c : Ctx P et h pc ops S bl tg r vs) {D : Nat → Bool} (hcl : Closed bl ops.size D) {i : Nat} (hi : i < ops.size) (hD : D i = false) (hb : ∀ j, before bl i j = true → D j = true) {x : OR} (hx : r i = some x) {t : Nat} {e : Ent} (hf : find x.V.tmps t = some e) : tmpL r ops.toList S (L ops.size D) t = some e := by
  obtain ⟨o, x', vi, ho, hx', ⟨kt, kh, G, hV⟩, _, _, _, _⟩ := c.all i hi
  rw [hx] at hx'
  cases hx'
  rw [hV] at hf
  obtain ⟨this, hhid⟩ := viewOf_tmps hf
  unfold tmpL at this ⊢
  split at this
  · rename_i j hj
    unfold hiddenT at hhid
    rw [hj] at hhid
    have hjn : j < ops.size := by
      unfold ownT at hj
      rw [List.findIdx?_eq_some_iff_getElem] at hj
      obtain ⟨hl, _⟩ := hj
      simpa using hl
    split at this
    · rename_i hc
      have hm : j ∈ L ops.size (before bl i) := by simpa using hc
      rw [L_mem] at hm
      rw [if_pos (by simpa using L_mem.2 ⟨hm.1, hb j hm.2⟩)]
      exact this
    · rename_i hc
      have hnb : before bl i j = false := by
        rcases hq : before bl i j with _ | _
        · rfl
        · exact absurd (by simpa using L_mem.2 ⟨hjn, hq⟩) hc
      have hDj : D j = false := by
        by_cases hji : j = i
        · rw [hji]; exact hD
        · have hbj : before bl j i = true := by simpa [hji, hnb] using hhid
          rcases hq : D j with _ | _
          · rfl
          · have := hcl j hjn hq i hbj
            rw [hD] at this; cases this
      rw [if_neg (by
        intro hcc
        have : j ∈ L ops.size D := by simpa using hcc
        rw [L_mem, hDj] at this
        cases this.2)]
      exact this
  · exact this
def plus (D : Nat → Bool) (i : Nat) : Nat → Bool := fun j => D j || decide (j = i)
theorem Ctx.one (c : Ctx P et h pc ops S bl tg r vs) {ρ : Env} (he : ρ.et = et) (hh : HOK P ρ h) (hpc : allB ρ pc) (hv : allV ρ vs) {D : Nat → Bool} (hcl : Closed bl ops.size D) {i : Nat} (hi : i < ops.size) (hD : D i = false) (hb : ∀ j, before bl i j = true → D j = true)
    {b : Bd} {base : Nat → Prop} {w0 w : World} {a : Act} (hg : GRel ρ b base w0 w (tmpL r ops.toList S (L ops.size D)) (entL r S (L ops.size D)) (NS S r D ops.size) a.tmps S.nt) {Q : Exit → Act → World → Prop} {K : Act → World → Prop}
    (hk : ∀ b' w' a', a'.defers = a.defers → Agree b b' (· < S.next) → GRel ρ b' base w0 w' (tmpL r ops.toList S (L ops.size (plus D i))) (entL r S (L ops.size (plus D i))) (NS S r (plus D i) ops.size) a'.tmps S.nt → K a' w') : wpOp P ops Q i K a w := by
  obtain ⟨o, x, vi, ho, hx, ⟨kt, kh, G, hV⟩, hchk, hst, hok, hvi⟩ := c.all i hi
  have hs := okStep_ok hok
  have hnt : x.V.nt = S.nt := by rw [hV]; rfl
  have hVT : ∀ t e, find x.V.tmps t = some e → tmpL r ops.toList S (L ops.size D) t = some e := fun t e hf => c.view_tmps hcl hi hD hb hx hf
  have hVH : ∀ n e, find x.V.heap n = some e → entL r S (L ops.size D) n = some e := fun n e hf => c.view_heap hcl hi hD hb hx hf
  have hrel := hg.view hVT hVH hnt hchk
  refine stepOp_ok he hh hst hpc (fun v hvv => hv v (hvi v hvv)) hrel ho (fun b' w' val d1 d2 d3 => ?_)
  simp only [T.at] at d2 d3
  have hlow := c.low i x hx
  have hal : ∀ m, (inRange r S (L ops.size (before bl i)) m = true ∨ (x.V.next ≤ m ∧ m < x.U.next)) → NS S r (plus D i) ops.size m := by
    intro m hm
    rcases hm with hm | hm
    · rcases inRange_ok hm with h1 | ⟨j, hj, y, hy, h1⟩
      · exact .inl h1
      · rw [L_mem] at hj
        exact .inr ⟨j, hj.1, by simp [plus, hb j hj.2], y, hy, h1⟩
    · exact .inr ⟨i, hi, by simp [plus], x, hx, hm⟩
  have hst := hg.step (V := x.V) (U := x.U) (b' := b') (w' := w') (Tm' := tmpL r ops.toList S (L ops.size (plus D i))) (Hp' := entL r S (L ops.size (plus D i))) (N' := NS S r (plus D i) ops.size) hVH d1 d2 d3 (fun n e hf => (c.seen hi hx hf).2.2.1) ?hT ?hH ?hN1 ?hN2 ?hN3 (by cases o.dst <;> simp [Act.put])
  · refine hk _ _ _ (by cases o.dst <;> rfl) ?_ hst
    exact Bd.join_old (N := (· < S.next)) (fun n hn => by omega)
  case hT =>
    intro t e hf
    unfold tmpL at hf
    split at hf
    · rename_i j hj
      split at hf
      · rename_i hc
        have hm : j ∈ L ops.size (plus D i) := by simpa using hc
        rw [L_mem] at hm
        by_cases hji : j = i
        · subst hji
          have hdst : o.dst = some t := by
            unfold ownT at hj
            rw [List.findIdx?_eq_some_iff_getElem] at hj
            obtain ⟨hl, h1, _⟩ := hj
            have h2 : ops.toList[j] = o := by
              have := (Array.getElem?_eq_some_iff.1 ho).2
              simpa using this
            rw [h2] at h1
            simpa using h1
          rw [hx] at hf
          simp only [Option.bind_some] at hf
          exact .inl ⟨hdst, hf, fun m hm => hal m (hs.dst t e hdst hf m hm)⟩
        · refine .inr ⟨fun hdst => hji ?_, ?_⟩
          · have := (c.edge i o ho).2.2 t hdst
            rw [hj] at this
            exact Option.some.inj this
          · have hDj : D j = true := by simpa [plus, hji] using hm.2
            unfold tmpL
            rw [hj]
            dsimp only
            rw [if_pos (by simpa using L_mem.2 ⟨hm.1, hDj⟩)]
            exact hf
      · rename_i hc
        have hjn : j < ops.size := by
          unfold ownT at hj
          rw [List.findIdx?_eq_some_iff_getElem] at hj
          obtain ⟨hl, _⟩ := hj
          simpa using hl
        have hpj : plus D i j = false := by
          rcases hq : plus D i j with _ | _
          · rfl
          · exact absurd (by simpa using L_mem.2 ⟨hjn, hq⟩) hc
        have hji : ¬ j = i := fun e => by simp [plus, e] at hpj
        have hDj : D j = false := by simpa [plus, hji] using hpj
        refine .inr ⟨fun hdst => hji ?_, ?_⟩
        · have := (c.edge i o ho).2.2 t hdst
          rw [hj] at this
          exact Option.some.inj this
        · unfold tmpL
          rw [hj]
          dsimp only
          rw [if_neg (by
            intro hcc
            have : j ∈ L ops.size D := by simpa using hcc
            rw [L_mem, hDj] at this
            cases this.2)]
          exact hf
    · rename_i hn
      refine .inr ⟨fun hdst => ?_, ?_⟩
      · have := (c.edge i o ho).2.2 t hdst
        rw [hn] at this
        cases this
      · unfold tmpL
        rw [hn]
        exact hf
  case hN1 =>
    intro n hn
    rcases hn with hn | ⟨j, hj, hDj, y, hy, h1⟩
    · exact .inl hn
    · exact .inr ⟨j, hj, by simp [plus, hDj], y, hy, h1⟩
  case hN2 => exact fun n h1 h2 => .inr ⟨i, hi, by simp [plus], x, hx, h1, h2⟩
  case hN3 =>
    intro n hn hc
    rcases hn with hn | ⟨j, hj, hDj, y, hy, h1⟩
    · omega
    · have := c.uniq hy hx h1.1 h1.2 hc.1 hc.2
      subst this
      rw [hD] at hDj; cases hDj
  case hH =>
    intro n e hf hge
    -- the block's first state
    unfold entL at hf
    rw [Option.map_eq_some_iff] at hf
    obtain ⟨e0, he0, hae⟩ := hf
    by_cases hnew : ∃ e1, find (news x) n = some e1
    · obtain ⟨e1, hfe⟩ := hnew
      have hnm := news_mem hfe
      have hb0 := c.base_new (S := S) (L_mem.2 ⟨hi, by simp [plus]⟩ : i ∈ L ops.size (plus D i)) hx hfe
      rw [hb0] at he0
      cases he0
      have hno : lastW (wrsOf r (L ops.size (plus D i))) n = none := by
        refine lastW_none fun cs hcs => ?_
        obtain ⟨j, hj, y, hy, hw⟩ := wrsOf_mem hcs
        rw [L_mem] at hj
        obtain ⟨e2, u2, hf2, _, _, _⟩ := wrote_mem hw
        obtain ⟨s1, s2, s3, s4⟩ := c.seen hj.1 hy hf2
        rcases s4 with s4 | ⟨k, hk, hbk, z, hz, z1, z2⟩
        · omega
        · have := c.uniq hz hx z1 z2 hnm.1 hnm.2.1
          subst this
          by_cases hji : j = k
          · subst hji
            rw [hx] at hy; cases hy
            omega
          · have hDj : D j = true := by simpa [plus, hji] using hj.2
            have := hcl j hj.1 hDj k hbk
            rw [hD] at this; cases this
      unfold applyW at hae
      rw [hno] at hae
      subst hae
      exact .inl ⟨hnm.1, hnm.2.2.2, hnm.2.2.1, fun m hm => hal m (hs.news n _ hfe m hm)⟩
    · -- the same block as before
      have hbase : baseE r S (L ops.size D) n = some e0 := by
        rcases baseE_cases he0 with ⟨k, hk, y, hy, hfy⟩ | hs'
        · rw [L_mem] at hk
          by_cases hki : k = i
          · subst hki
            rw [hx] at hy; cases hy
            exact absurd ⟨_, hfy⟩ hnew
          · exact c.base_new (L_mem.2 ⟨hk.1, by simpa [plus, hki] using hk.2⟩) hy hfy
        · rw [c.base_old (c.heap n e0 hs')]; exact hs'
      by_cases hw : ∃ cs, (n, cs) ∈ wrote x
      · obtain ⟨cs, hw⟩ := hw
        obtain ⟨ev, u, hfv, hfu, hov, hcs⟩ := wrote_mem hw
        obtain ⟨u', hu', hug, huk, hue, hun⟩ := hs.seen n ev hfv hov
        rw [hfu] at hu'
        cases hu'
        obtain ⟨s1, s2, s3, s4⟩ := c.seen hi hx hfv
        have hlast : lastW (wrsOf r (L ops.size (plus D i))) n = lastW (wrote x) n := by
          refine lastW_at hx _ hi (by simp [plus]) (fun j hj hij hpj y hy cs' hw' => ?_) ⟨cs, hw⟩
          have hDj : D j = true := by
            have : ¬ j = i := by omega
            simpa [plus, this] using hpj
          have := c.writers hcl hi hD s2 hj hDj hy hw'
          have := ((c.edge i o ho).2.1 j this).1
          omega
        obtain ⟨d, hd⟩ := lastW_has hw
        have hdc : d = u.blk.cells := by
          obtain ⟨_, u2, _, hu2, _, hc2⟩ := wrote_mem (lastW_some hd)
          rw [hfu] at hu2
          cases hu2
          exact hc2
        have hve := hVH n ev hfv
        unfold entL at hve
        rw [hbase] at hve
        simp only [Option.map_some, Option.some.injEq] at hve
        have hshape : ev.g = e0.g ∧ ev.blk.kind = e0.blk.kind ∧ ev.blk.elem = e0.blk.elem := by
          rw [← hve]
          unfold applyW
          split <;> exact ⟨rfl, rfl, rfl⟩
        unfold applyW at hae
        rw [hlast, hd] at hae
        dsimp only at hae
        have heg : e.g = e0.g := by rw [← hae]
        have heb : e.blk = u.blk := by
          rw [← hae]
          have hk2 : u.blk.kind = e0.blk.kind := huk.trans hshape.2.1
          have he2 : u.blk.elem = e0.blk.elem := hue.trans hshape.2.2
          show (⟨d, e0.blk.elem, e0.blk.kind⟩ : Blk) = u.blk
          rw [hdc, ← hk2, ← he2]
        have hgv : allB ρ ev.g := by rw [hshape.1, ← heg]; exact hge
        refine .inr (.inl ⟨ev, u, hfv, hgv, hov, hfu, by rw [hug]; exact hgv, huk, hue, heb, fun m hm => ?_⟩)
        rw [heb] at hm
        exact hal m (hun m hm)
      · have hsame : entL r S (L ops.size D) n = some e := by
          unfold entL
          rw [hbase]
          simp only [Option.map_some, Option.some.injEq]
          rw [← hae]
          refine applyW_eq (Eq.symm (lastW_part _ (fun j hj hDj => by simp [plus, hDj]) (fun j hj hpj hDj y hy cs hw' => ?_))) e0
          have hji : j = i := by
            rcases Classical.em (j = i) with h1 | h1
            · exact h1
            · exfalso; simp [plus, h1] at hpj; rw [hDj] at hpj; cases hpj
          subst hji
          rw [hx] at hy; cases hy
          exact hw ⟨cs, hw'⟩
        by_cases hvis : ∃ ev, find x.V.heap n = some ev ∧ ev.blk.own = true
        · obtain ⟨ev, hfv, hov⟩ := hvis
          obtain ⟨u, hfu, hug, huk, hue, hun⟩ := hs.seen n ev hfv hov
          have hev := hVH n ev hfv
          rw [hsame] at hev
          cases hev
          have hcells : e.blk.cells = u.blk.cells := by
            rcases hsm : SV.sameL e.blk.cells u.blk.cells with _ | _
            · exfalso
              refine hw ⟨u.blk.cells, ?_⟩
              unfold Sx.wrote
              rw [List.mem_filterMap]
              refine ⟨(n, e), find_mem hfv, ?_⟩
              simp only [hfv, hfu, hov, hsm]
              rfl
            · exact SV.sameL_eq _ _ hsm
          have hblk : e.blk = u.blk := by
            cases he : e.blk with
            | mk c1 c2 c3 =>
              cases hu : u.blk with
              | mk d1 d2 d3 =>
                rw [he, hu] at hcells huk hue
                simp only at hcells huk hue
                rw [hcells, huk, hue]
          refine .inr (.inl ⟨e, u, hfv, hge, hov, hfu, by rw [hug]; exact hge, huk, hue, hblk, fun m hm => ?_⟩)
          rw [hblk] at hm
          exact hal m (hun m hm)
        · refine .inr (.inr ⟨hsame, fun ev hfv => ?_⟩)
          rcases hov : ev.blk.own with _ | _
          · rfl
          · exact absurd ⟨ev, hfv, hov⟩ hvis
end
end Go.Proofs.Ytdfpenjhpemokaa.Sx
/-
  A verified symbolic executor, part 23: regions whose order is drawn.
-/
namespace Go.Proofs.Ytdfpenjhpemokaa.Sx
open Go.RowKit (Below)

section
variable {P : Program} {et : TypeId} {h : Handler} {pc : List E} {ops : Array Oper} {S : St} {bl : List Nat} {tg : List (List Nat)} {vs : List VC}

end

end Go.Proofs.Ytdfpenjhpemokaa.Sx
