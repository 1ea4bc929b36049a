/-
  A verified symbolic executor, part 12: trees of states; what a test tells; ways that meet again.
-/
import Derived.Test.YtdfpenjhpemokaaSxK
set_option linter.unusedVariables false
set_option linter.unusedSimpArgs false
namespace Go.Proofs.Ytdfpenjhpemokaa.Sx
open Go.RowKit (Below)

inductive T (α : Type) where
  | leaf (x : α)
  | node (c : E) (t u : T α)
  deriving Inhabited
def T.at {α : Type} (ρ : Env) : T α → α
  | .leaf x => x
  | .node c t u => if c.b ρ = true then t.at ρ else u.at ρ
/-- Something to be shown: under what, what. -/
structure VC where
  pc : List E
  e : E
  deriving Repr, Inhabited
def VC.holds (ρ : Env) (v : VC) : Prop := allB ρ v.pc → v.e.b ρ = true
def allV (ρ : Env) (l : List VC) : Prop := ∀ v ∈ l, v.holds ρ
theorem allV_app {ρ : Env} {l m : List VC} : allV ρ (l ++ m) ↔ allV ρ l ∧ allV ρ m := by
  unfold allV
  simp only [List.mem_append]
  exact ⟨fun h => ⟨fun v hv => h v (.inl hv), fun v hv => h v (.inr hv)⟩, fun h v hv => hv.elim (h.1 v) (h.2 v)⟩
theorem allB_cons {ρ : Env} {e : E} {l : List E} (h : e.b ρ = true) (hl : allB ρ l) : allB ρ (e :: l) := by
  intro x hx
  cases hx with
  | head => exact h
  | tail _ hx => exact hl x hx
theorem allB_nil (ρ : Env) : allB ρ [] := fun _ h => by cases h
def T.bind {α β : Type} (f : List E → α → Option (T β × List VC)) : List E → T α → Option (T β × List VC)
  | pc, .leaf x => f pc x
  | pc, .node c t u => match T.bind f (c :: pc) t, T.bind f (mkNot c :: pc) u with
    | some (t', v), some (u', v') => some (.node c t' u', v ++ v')
    | _, _ => none
theorem T.bind_ok {α β : Type} {f : List E → α → Option (T β × List VC)} {ρ : Env} : ∀ {t : T α} {pc : List E} {r : T β} {vs : List VC}, T.bind f pc t = some (r, vs) → allB ρ pc → allV ρ vs →
    ∃ pc' r' vs', f pc' (t.at ρ) = some (r', vs') ∧ allB ρ pc' ∧ allV ρ vs' ∧ r.at ρ = r'.at ρ := by
  intro t
  induction t with
  | leaf x => intro pc r vs h hpc hv; exact ⟨pc, r, vs, h, hpc, hv, rfl⟩
  | node c t u iht ihu =>
    intro pc r vs h hpc hv
    simp only [T.bind] at h
    split at h
    · rename_i t' v u' v' h1 h2
      cases h
      rw [allV_app] at hv
      by_cases hc : c.b ρ = true
      · obtain ⟨pc', r', vs', a1, a2, a3, a4⟩ := iht h1 (allB_cons hc hpc) hv.1
        exact ⟨pc', r', vs', by simp only [T.at, hc, if_true]; exact a1, a2, a3, by simp only [T.at, hc, if_true]; exact a4⟩
      · have hc' : (mkNot c).b ρ = true := by rw [mkNot_b]; simpa using hc
        obtain ⟨pc', r', vs', a1, a2, a3, a4⟩ := ihu h2 (allB_cons hc' hpc) hv.2
        exact ⟨pc', r', vs', by simp only [T.at, hc, if_false]; exact a1, a2, a3, by simp only [T.at, hc, if_false]; exact a4⟩
    · cases h

/-! What a test tells of numbers. -/
mutual
def E.tells : E → R → R
  | .bin .lt x y, r =>
    match x, y with
    | x, .c z => if x.same r.e then ⟨r.e, r.lo, imin r.hi (z - 1)⟩ else r
    | .c z, y => if y.same r.e then ⟨r.e, imax r.lo (z + 1), r.hi⟩ else r
    | _, _ => r
  | .bin .le x y, r =>
    match x, y with
    | x, .c z => if x.same r.e then ⟨r.e, r.lo, imin r.hi z⟩ else r
    | .c z, y => if y.same r.e then ⟨r.e, imax r.lo z, r.hi⟩ else r
    | _, _ => r
  | .bin .eq x y, r =>
    match x, y with
    | x, .c z => if x.same r.e then ⟨.c z, z, z⟩ else r
    | _, _ => r
  | .bin .and p q, r => p.tells (q.tells r)
  | .un .not p, r => p.denies r
  | _, r => r
def E.denies : E → R → R
  | .bin .lt x y, r =>
    match x, y with
    | x, .c z => if x.same r.e then ⟨r.e, imax r.lo z, r.hi⟩ else r
    | .c z, y => if y.same r.e then ⟨r.e, r.lo, imin r.hi z⟩ else r
    | _, _ => r
  | .bin .le x y, r =>
    match x, y with
    | x, .c z => if x.same r.e then ⟨r.e, imax r.lo (z + 1), r.hi⟩ else r
    | .c z, y => if y.same r.e then ⟨r.e, r.lo, imin r.hi (z - 1)⟩ else r
    | _, _ => r
  | .bin .eq x y, r =>
    match x, y with
    | x, .c z => if x.same r.e then (if r.lo = z then ⟨r.e, z + 1, r.hi⟩ else if r.hi = z then ⟨r.e, r.lo, z - 1⟩ else r) else r
    | _, _ => r
  | .bin .or p q, r => p.denies (q.denies r)
  | .un .not p, r => p.tells r
  | _, r => r
end
theorem le_imin {a b c : Int} (h1 : a ≤ b) (h2 : a ≤ c) : a ≤ imin b c := by unfold imin; split <;> omega
theorem imax_le {a b c : Int} (h1 : a ≤ c) (h2 : b ≤ c) : imax a b ≤ c := by unfold imax; split <;> omega
theorem E.tells_ok (ρ : Env) : ∀ (c : E) (r : R), r.ok ρ → (c.b ρ = true → (c.tells r).ok ρ ∧ (c.tells r).e.i ρ = r.e.i ρ) ∧ (c.b ρ = false → (c.denies r).ok ρ ∧ (c.denies r).e.i ρ = r.e.i ρ) := by
  intro c
  induction c with
  | bin o x y ihx ihy =>
    intro r hr
    obtain ⟨h1, h2⟩ := hr
    cases o with
    | lt =>
      refine ⟨fun h => ?_, fun h => ?_⟩
      · simp only [E.b, decide_eq_true_eq] at h
        simp only [E.tells]
        split
        · split
          · rename_i z hs; rw [E.same_eq hs] at h; simp only [E.i] at h; exact ⟨⟨h1, le_imin h2 (by show r.e.i ρ ≤ _; omega)⟩, rfl⟩
          · exact ⟨⟨h1, h2⟩, rfl⟩
        · split
          · rename_i z _ hs; rw [E.same_eq hs] at h; simp only [E.i] at h; exact ⟨⟨imax_le h1 (by show _ ≤ r.e.i ρ; omega), h2⟩, rfl⟩
          · exact ⟨⟨h1, h2⟩, rfl⟩
        · exact ⟨⟨h1, h2⟩, rfl⟩
      · simp only [E.b, decide_eq_false_iff_not] at h
        simp only [E.denies]
        split
        · split
          · rename_i z hs; rw [E.same_eq hs] at h; simp only [E.i] at h; exact ⟨⟨imax_le h1 (by show _ ≤ r.e.i ρ; omega), h2⟩, rfl⟩
          · exact ⟨⟨h1, h2⟩, rfl⟩
        · split
          · rename_i z _ hs; rw [E.same_eq hs] at h; simp only [E.i] at h; exact ⟨⟨h1, le_imin h2 (by show r.e.i ρ ≤ _; omega)⟩, rfl⟩
          · exact ⟨⟨h1, h2⟩, rfl⟩
        · exact ⟨⟨h1, h2⟩, rfl⟩
    | le =>
      refine ⟨fun h => ?_, fun h => ?_⟩
      · simp only [E.b, decide_eq_true_eq] at h
        simp only [E.tells]
        split
        · split
          · rename_i z hs; rw [E.same_eq hs] at h; simp only [E.i] at h; exact ⟨⟨h1, le_imin h2 (by show r.e.i ρ ≤ _; omega)⟩, rfl⟩
          · exact ⟨⟨h1, h2⟩, rfl⟩
        · split
          · rename_i z _ hs; rw [E.same_eq hs] at h; simp only [E.i] at h; exact ⟨⟨imax_le h1 (by show _ ≤ r.e.i ρ; omega), h2⟩, rfl⟩
          · exact ⟨⟨h1, h2⟩, rfl⟩
        · exact ⟨⟨h1, h2⟩, rfl⟩
      · simp only [E.b, decide_eq_false_iff_not] at h
        simp only [E.denies]
        split
        · split
          · rename_i z hs; rw [E.same_eq hs] at h; simp only [E.i] at h; exact ⟨⟨imax_le h1 (by show _ ≤ r.e.i ρ; omega), h2⟩, rfl⟩
          · exact ⟨⟨h1, h2⟩, rfl⟩
        · split
          · rename_i z _ hs; rw [E.same_eq hs] at h; simp only [E.i] at h; exact ⟨⟨h1, le_imin h2 (by show r.e.i ρ ≤ _; omega)⟩, rfl⟩
          · exact ⟨⟨h1, h2⟩, rfl⟩
        · exact ⟨⟨h1, h2⟩, rfl⟩
    | eq =>
      refine ⟨fun h => ?_, fun h => ?_⟩
      · simp only [E.b, decide_eq_true_eq] at h
        simp only [E.tells]
        split
        · split
          · rename_i z hs; rw [E.same_eq hs] at h; simp only [E.i] at h; exact ⟨⟨Int.le_refl _, Int.le_refl _⟩, h.symm⟩
          · exact ⟨⟨h1, h2⟩, rfl⟩
        · exact ⟨⟨h1, h2⟩, rfl⟩
      · simp only [E.b, decide_eq_false_iff_not] at h
        simp only [E.denies]
        split
        · split
          · rename_i z hs
            rw [E.same_eq hs] at h; simp only [E.i] at h
            split
            · exact ⟨⟨by show z + 1 ≤ r.e.i ρ; omega, h2⟩, rfl⟩
            · split
              · exact ⟨⟨h1, by show r.e.i ρ ≤ z - 1; omega⟩, rfl⟩
              · exact ⟨⟨h1, h2⟩, rfl⟩
          · exact ⟨⟨h1, h2⟩, rfl⟩
        · exact ⟨⟨h1, h2⟩, rfl⟩
    | and =>
      refine ⟨fun h => ?_, fun h => ⟨⟨h1, h2⟩, rfl⟩⟩
      simp only [E.b, Bool.and_eq_true] at h
      simp only [E.tells]
      have a := (ihy r ⟨h1, h2⟩).1 h.2
      have c := (ihx _ a.1).1 h.1
      exact ⟨c.1, c.2.trans a.2⟩
    | or =>
      refine ⟨fun h => ⟨⟨h1, h2⟩, rfl⟩, fun h => ?_⟩
      simp only [E.b, Bool.or_eq_false_iff] at h
      simp only [E.denies]
      have a := (ihy r ⟨h1, h2⟩).2 h.2
      have c := (ihx _ a.1).2 h.1
      exact ⟨c.1, c.2.trans a.2⟩
    | _ => exact ⟨fun h => ⟨⟨h1, h2⟩, rfl⟩, fun h => ⟨⟨h1, h2⟩, rfl⟩⟩
  | un o x ih =>
    intro r hr
    cases o with
    | not =>
      refine ⟨fun h => ?_, fun h => ?_⟩
      · simp only [E.b] at h
        simp only [E.tells]
        exact (ih r hr).2 (by simpa using h)
      · simp only [E.b] at h
        simp only [E.denies]
        exact (ih r hr).1 (by simpa using h)
    | wrap k => exact ⟨fun h => ⟨hr, rfl⟩, fun h => ⟨hr, rfl⟩⟩
  | _ => intro r hr; exact ⟨fun h => ⟨hr, rfl⟩, fun h => ⟨hr, rfl⟩⟩

mutual
/-- A value under what is so. -/
def SV.under (et : TypeId) (d : E) : SV → SV
  | .int k r => .int k (d.tells r)
  | .bool e => if e.same d then .bool (.bc true) else if (mkNot e).same d then .bool (.bc false) else .bool e
  | .err r =>
    let r' := d.tells r
    if r'.lo = 0 ∧ r'.hi = 0 then .nili else if 1 ≤ r'.lo then .ifc et (.int .i64 r') else .err r'
  | .agg l => .agg (SV.underL et d l)
  | .ifc t v => .ifc t (v.under et d)
  | .tup l => .tup (SV.underL et d l)
  | .osl k sh len => let r := d.tells len; if 0 ≤ r.lo then .osl k sh r else .osl k sh len
  | v => v
def SV.underL (et : TypeId) (d : E) : List SV → List SV
  | [] => []
  | a :: l => a.under et d :: SV.underL et d l
end
theorem underL_length (et : TypeId) (d : E) (l : List SV) : (SV.underL et d l).length = l.length := by
  induction l with
  | nil => rfl
  | cons a l ih => simp [SV.underL, ih]
theorem underL_map (et : TypeId) (d : E) (l : List SV) : SV.underL et d l = l.map (SV.under et d) := by
  induction l with
  | nil => rfl
  | cons a l ih => simp [SV.underL, ih]
mutual
theorem SV.under_ok {et : TypeId} {ρ : Env} (he : ρ.et = et) {d : E} (hd : d.b ρ = true) (b : Bd) {N : Nat → Prop} : (v : SV) → v.ok ρ N → (v.under et d).den ρ b = v.den ρ b ∧ (v.under et d).ok ρ N
  | .int k r, h => by
    have := (E.tells_ok ρ d r h).1 hd
    exact ⟨by simp only [SV.under, SV.den, this.2], this.1⟩
  | .bool e, _ => by
    simp only [SV.under]
    split
    · rename_i hs
      exact ⟨by simp only [SV.den, E.same_eq hs, hd, E.b], trivial⟩
    · split
      · rename_i hs
        have : (mkNot e).b ρ = true := by rw [E.same_eq hs]; exact hd
        rw [mkNot_b] at this
        exact ⟨by simp only [SV.den, E.b]; congr 1; cases h : e.b ρ <;> simp_all, trivial⟩
      · exact ⟨rfl, trivial⟩
  | .err r, h => by
    have ht := (E.tells_ok ρ d r h).1 hd
    simp only [SV.under]
    split
    · rename_i h0
      have : r.e.i ρ = 0 := by rw [← ht.2]; have := ht.1.1; have := ht.1.2; omega
      exact ⟨by simp only [SV.den, this, if_true], trivial⟩
    · split
      · rename_i h1
        have : ¬ r.e.i ρ = 0 := by rw [← ht.2]; have := ht.1.1; omega
        exact ⟨by simp only [SV.den, this, if_false, ht.2, he], ht.1⟩
      · exact ⟨by simp only [SV.den, ht.2], ht.1⟩
  | .agg l, h => by
    have := SV.underL_ok he hd b l h
    exact ⟨by simp only [SV.under, SV.den, this.1], this.2⟩
  | .tup l, h => by
    have := SV.underL_ok he hd b l h
    exact ⟨by simp only [SV.under, SV.den, this.1], this.2⟩
  | .ifc t v, h => by
    have := SV.under_ok he hd b v h
    exact ⟨by simp only [SV.under, SV.den, this.1], this.2⟩
  | .nilp, h => ⟨rfl, h⟩
  | .ptr _ _, h => ⟨rfl, h⟩
  | .nils, h => ⟨rfl, h⟩
  | .sl _ _ _ _, h => ⟨rfl, h⟩
  | .slv _ _ _, h => ⟨rfl, h⟩
  | .emp _, h => ⟨rfl, h⟩
  | .osl k sh len, h => by
    have ht := (E.tells_ok ρ d len h.1).1 hd
    simp only [SV.under]
    split
    · rename_i h0
      exact ⟨by simp only [SV.den, ht.2], ht.1, h0, fun i hi => h.2.2.1 i (by rw [← ht.2]; exact hi), by rw [ht.2]; exact h.2.2.2⟩
    · exact ⟨rfl, h⟩
  | .optr _ _ _ _, h => ⟨rfl, h⟩
  | .esl _ _, h => ⟨rfl, h⟩
  | .nili, h => ⟨rfl, h⟩
  | .nilf, h => ⟨rfl, h⟩
  | .fn _ _, h => ⟨rfl, h⟩
  | .con _, h => ⟨rfl, h⟩
theorem SV.underL_ok {et : TypeId} {ρ : Env} (he : ρ.et = et) {d : E} (hd : d.b ρ = true) (b : Bd) {N : Nat → Prop} : (l : List SV) → SV.okL ρ N l → SV.denL ρ b (SV.underL et d l) = SV.denL ρ b l ∧ SV.okL ρ N (SV.underL et d l)
  | [], _ => ⟨rfl, trivial⟩
  | a :: l, h => by
    have h1 := SV.under_ok he hd b a h.1
    have h2 := SV.underL_ok he hd b l h.2
    exact ⟨by simp only [SV.underL, SV.denL, h1.1, h2.1], h1.2, h2.2⟩
end
theorem Blk.ok.cells {ρ : Env} {b : Bd} {base : Nat → Prop} {w : World} {n : Nat} {B : Blk} (h : B.ok ρ b base w n) {cs : List SV} (hc : SV.denL ρ b cs = SV.denL ρ b B.cells) : ({ B with cells := cs } : Blk).ok ρ b base w n := by
  have hl : cs.length = B.cells.length := by have := congrArg List.length hc; simpa [denL_length] using this
  have hg : ∀ (i : Nat) (v : SV), cs[i]? = some v → ∃ u : SV, B.cells[i]? = some u ∧ u.den ρ b = v.den ρ b := by
    intro i v hi
    have := congrArg (fun l => l[i]?) hc
    simp only [denL_get, hi, Option.map_some] at this
    cases hq : B.cells[i]? with
    | none => rw [hq] at this; cases this
    | some u => rw [hq] at this; exact ⟨u, rfl, by simpa using this.symm⟩
  unfold Blk.ok at h ⊢
  cases hk : B.kind with
  | full => rw [hk] at h; dsimp only at h ⊢; rw [hc]; exact h
  | grow sz =>
    rw [hk] at h
    dsimp only at h ⊢
    obtain ⟨h0, h1, arr, h2, h3, h4, h5⟩ := h
    refine ⟨h0, h1, arr, h2, h3, by omega, fun i v hi => ?_⟩
    obtain ⟨u, hu, he⟩ := hg i v hi
    rw [← he]; exact h5 i u hu
  | far =>
    rw [hk] at h
    dsimp only at h ⊢
    refine ⟨h.1, fun i v hi => ?_⟩
    obtain ⟨u, hu, he⟩ := hg i v hi
    rw [← he]; exact h.2 i u hu
theorem find_map {α : Type} (f : α → α) (l : List (Nat × α)) (n : Nat) : find (l.map fun x => (x.1, f x.2)) n = (find l n).map f := by
  induction l with
  | nil => rfl
  | cons a l ih =>
    simp only [List.map_cons, find, ih]
    split <;> rfl
def heapUnder (et : TypeId) (d : E) : List (Nat × HEnt) → List (Nat × HEnt)
  | [] => []
  | (n, ⟨g, ⟨cs, t, kd⟩⟩) :: r => (n, ⟨g, ⟨SV.underL et d cs, t, kd⟩⟩) :: heapUnder et d r
theorem heapUnder_eq (et : TypeId) (d : E) (H : List (Nat × HEnt)) : heapUnder et d H = H.map fun x => (x.1, { x.2 with blk := { x.2.blk with cells := SV.underL et d x.2.blk.cells } }) := by
  induction H with
  | nil => rfl
  | cons a r ih => obtain ⟨n, g, cs, t, kd⟩ := a; simp only [heapUnder, ih, List.map_cons]
def tmpsUnder (et : TypeId) (d : E) : List (Nat × Ent) → List (Nat × Ent)
  | [] => []
  | (n, ⟨g, x⟩) :: r => (n, ⟨g, x.under et d⟩) :: tmpsUnder et d r
theorem tmpsUnder_eq (et : TypeId) (d : E) (H : List (Nat × Ent)) : tmpsUnder et d H = H.map fun x => (x.1, { x.2 with sv := x.2.sv.under et d }) := by
  induction H with
  | nil => rfl
  | cons a r ih => obtain ⟨n, g, x⟩ := a; simp only [tmpsUnder, ih, List.map_cons]
/-- A state under what is so. -/
def St.under (et : TypeId) (d : E) (S : St) : St := { S with tmps := tmpsUnder et d S.tmps, heap := heapUnder et d S.heap }
theorem HRel.under {et : TypeId} {ρ : Env} (he : ρ.et = et) {d : E} (hd : d.b ρ = true) {b : Bd} {base : Nat → Prop} {w : World} {H : List (Nat × HEnt)} {N : Nat → Prop} (h : HRel ρ b base w H N) : HRel ρ b base w (heapUnder et d H) N where
  mem := fun n e hf hg => by
    rw [heapUnder_eq, find_map (fun x : HEnt => { x with blk := { x.blk with cells := SV.underL et d x.blk.cells } })] at hf
    rw [Option.map_eq_some_iff] at hf
    obtain ⟨e', hf', rfl⟩ := hf
    obtain ⟨h1, h2, h3⟩ := h.mem n e' hf' hg
    have := SV.underL_ok he hd b _ h3
    exact ⟨h1, h2.cells this.1, this.2⟩
  inj := fun n m e k hf hk hg hgk ho hok heq => by
    rw [heapUnder_eq, find_map (fun x : HEnt => { x with blk := { x.blk with cells := SV.underL et d x.blk.cells } })] at hf hk
    rw [Option.map_eq_some_iff] at hf hk
    obtain ⟨e', hf', rfl⟩ := hf
    obtain ⟨k', hk', rfl⟩ := hk
    exact h.inj n m e' k' hf' hk' hg hgk ho hok heq
theorem Rel.under {et : TypeId} {ρ : Env} (he : ρ.et = et) {d : E} (hd : d.b ρ = true) {b : Bd} {base : Nat → Prop} {w0 w : World} {S : St} {tm : Array Value} (h : Rel ρ b base w0 w S tm) : Rel ρ b base w0 w (S.under et d) tm := by
  refine ⟨h.heap.under he hd, fun i e hf => ?_, h.below, h.base, h.nt, h.kept⟩
  rw [St.under] at hf
  simp only at hf
  rw [tmpsUnder_eq, find_map (fun x : Ent => { x with sv := x.sv.under et d })] at hf
  rw [Option.map_eq_some_iff] at hf
  obtain ⟨e', hf', rfl⟩ := hf
  obtain ⟨h1, h2⟩ := h.tmps i e' hf'
  refine ⟨fun hg => ?_, h2⟩
  obtain ⟨h3, h4⟩ := h1 hg
  have := SV.under_ok he hd b _ h4
  exact ⟨by rw [this.1]; exact h3, this.2⟩
end Go.Proofs.Ytdfpenjhpemokaa.Sx
