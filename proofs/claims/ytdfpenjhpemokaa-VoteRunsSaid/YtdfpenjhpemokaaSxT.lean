/-
  A verified symbolic executor, part 20: regions whose order is drawn: the canonical run, and its parts.
-/
import Derived.Test.YtdfpenjhpemokaaSxS
set_option linter.unusedVariables false
set_option linter.unusedSimpArgs false
namespace Go.Proofs.Ytdfpenjhpemokaa.Sx
open Go.RowKit (Below)

/-- The first N numbers that have a property. -/
def L (N : Nat) (p : Nat → Bool) : List Nat := (List.range N).filter p
theorem L_mem {N : Nat} {p : Nat → Bool} {j : Nat} : j ∈ L N p ↔ j < N ∧ p j = true := by simp [L]
theorem L_cons (N : Nat) (p : Nat → Bool) : L (N + 1) p = L N p ++ if p N then [N] else [] := by
  simp [L, List.range_succ, List.filter_append, List.filter_cons]

theorem lastW_app (a c : List (Nat × List SV)) (n : Nat) : lastW (a ++ c) n = match lastW c n with | some x => some x | none => lastW a n := by
  induction a with
  | nil => simp only [List.nil_append, lastW]; cases lastW c n <;> rfl
  | cons x a ih =>
    obtain ⟨m, y⟩ := x
    simp only [List.cons_append, lastW, ih]
    cases lastW c n <;> rfl
theorem lastW_none {l : List (Nat × List SV)} {n : Nat} (h : ∀ c, (n, c) ∉ l) : lastW l n = none := by
  induction l with
  | nil => rfl
  | cons x l ih =>
    obtain ⟨m, y⟩ := x
    simp only [lastW, ih (fun c hc => h c (.tail _ hc))]
    split
    · rename_i hm; subst hm; exact absurd (.head _) (h y)
    · rfl
theorem lastW_some {l : List (Nat × List SV)} {n : Nat} {c : List SV} (h : lastW l n = some c) : (n, c) ∈ l := by
  induction l with
  | nil => cases h
  | cons x l ih =>
    obtain ⟨m, y⟩ := x
    simp only [lastW] at h
    split at h
    · rename_i d hd; cases h; exact .tail _ (ih hd)
    · split at h
      · rename_i hm; cases h; subst hm; exact .head _
      · cases h
theorem lastW_has {l : List (Nat × List SV)} {n : Nat} {c : List SV} (h : (n, c) ∈ l) : ∃ d, lastW l n = some d := by
  induction l with
  | nil => cases h
  | cons x l ih =>
    obtain ⟨m, y⟩ := x
    simp only [lastW]
    cases h with
    | head => cases lastW l n <;> simp
    | tail _ h => obtain ⟨d, hd⟩ := ih h; exact ⟨d, by rw [hd]⟩
theorem wrsAt_some {r : RS} {j : Nat} {x : OR} (h : r j = some x) : wrsAt r j = wrote x := by unfold wrsAt; rw [h]
theorem wrsAt_none {r : RS} {j : Nat} (h : r j = none) : wrsAt r j = [] := by unfold wrsAt; rw [h]
theorem wrsOf_mem {r : RS} {l : List Nat} {n : Nat} {c : List SV} (h : (n, c) ∈ wrsOf r l) : ∃ j ∈ l, ∃ x, r j = some x ∧ (n, c) ∈ wrote x := by
  unfold wrsOf at h
  rw [List.mem_flatMap] at h
  obtain ⟨j, hj, hm⟩ := h
  cases hr : r j with
  | none => rw [wrsAt_none hr] at hm; cases hm
  | some x => rw [wrsAt_some hr] at hm; exact ⟨j, hj, x, hr, hm⟩
theorem wrote_mem {x : OR} {n : Nat} {c : List SV} (h : (n, c) ∈ wrote x) : ∃ e u, find x.V.heap n = some e ∧ find x.U.heap n = some u ∧ e.blk.own = true ∧ c = u.blk.cells := by
  unfold wrote at h
  rw [List.mem_filterMap] at h
  obtain ⟨y, _, hy⟩ := h
  split at hy
  · rename_i e u h1 h2
    split at hy
    · rename_i hc
      cases hy
      simp only [Bool.and_eq_true] at hc
      exact ⟨e, u, h1, h2, hc.1, rfl⟩
    · cases hy
  · cases hy
/-- What others write elsewhere does not count. -/
theorem lastW_part {r : RS} {n : Nat} {p q : Nat → Bool} : ∀ N, (∀ j, j < N → q j = true → p j = true) → (∀ j, j < N → p j = true → q j = false → ∀ x, r j = some x → ∀ c, (n, c) ∉ wrote x) → lastW (wrsOf r (L N p)) n = lastW (wrsOf r (L N q)) n := by
  intro N
  induction N with
  | zero => intro _ _; rfl
  | succ N ih =>
    intro h1 h2
    have ih' := ih (fun j hj => h1 j (by omega)) (fun j hj => h2 j (by omega))
    rw [L_cons, L_cons]
    unfold wrsOf at ih' ⊢
    rw [List.flatMap_append, List.flatMap_append, lastW_app, lastW_app, ih']
    cases hp : p N with
    | false =>
      cases hq : q N with
      | false => rfl
      | true => rw [h1 N (by omega) hq] at hp; cases hp
    | true =>
      cases hq : q N with
      | true => rfl
      | false =>
        have : lastW (List.flatMap (wrsAt r) (if true = true then [N] else [])) n = none := by
          refine lastW_none fun c hc => ?_
          simp only [if_true, List.flatMap_cons, List.flatMap_nil, List.append_nil] at hc
          cases hr : r N with
          | none => rw [wrsAt_none hr] at hc; cases hc
          | some x => rw [wrsAt_some hr] at hc; exact h2 N (by omega) hp hq x hr c hc
        rw [this]
        simp [lastW]
/-- The last one to write. -/
theorem lastW_at {r : RS} {n i : Nat} {p : Nat → Bool} {x : OR} (hx : r i = some x) : ∀ N, i < N → p i = true → (∀ j, j < N → i < j → p j = true → ∀ y, r j = some y → ∀ c, (n, c) ∉ wrote y) → (∃ c, (n, c) ∈ wrote x) → lastW (wrsOf r (L N p)) n = lastW (wrote x) n := by
  intro N
  induction N with
  | zero => intro h; omega
  | succ N ih =>
    intro hi hp h2 hc
    rw [L_cons]
    unfold wrsOf at ih ⊢
    rw [List.flatMap_append, lastW_app]
    by_cases he : i = N
    · subst he
      rw [hp]
      simp only [if_true, List.flatMap_cons, List.flatMap_nil, List.append_nil, wrsAt_some hx]
      obtain ⟨c, hc⟩ := hc
      obtain ⟨d, hd⟩ := lastW_has hc
      rw [hd]
    · have : lastW (List.flatMap (wrsAt r) (if p N = true then [N] else [])) n = none := by
        refine lastW_none fun c hc => ?_
        split at hc
        · rename_i hpN
          simp only [List.flatMap_cons, List.flatMap_nil, List.append_nil] at hc
          cases hr : r N with
          | none => rw [wrsAt_none hr] at hc; cases hc
          | some y => rw [wrsAt_some hr] at hc; exact h2 N (by omega) (by omega) hpN y hr c hc
        · cases hc
      rw [this]
      exact ih (by omega) hp (fun j hj => h2 j (by omega)) hc

theorem news_mem {x : OR} {n : Nat} {e : HEnt} (h : find (news x) n = some e) : x.V.next ≤ n ∧ n < x.U.next ∧ e.blk.own = true ∧ find x.U.heap n = some e := by
  obtain ⟨y, h1, h2⟩ := restrict_mem (find_mem h)
  split at h2
  · rename_i hc
    cases h2
    simp only [Bool.and_eq_true, decide_eq_true_eq] at hc
    exact ⟨hc.1.1, hc.1.2, hc.2, h1⟩
  · cases h2
theorem baseE_cases {r : RS} {S : St} {n : Nat} {e : HEnt} : ∀ {l : List Nat}, baseE r S l n = some e → (∃ j ∈ l, ∃ x, r j = some x ∧ find (news x) n = some e) ∨ find S.heap n = some e := by
  intro l
  induction l with
  | nil => intro h; exact .inr h
  | cons j l ih =>
    intro h
    simp only [baseE] at h
    split at h
    · rename_i e' he
      cases h
      rw [Option.bind_eq_some_iff] at he
      obtain ⟨x, hx, hf⟩ := he
      exact .inl ⟨j, .head _, x, hx, hf⟩
    · rcases ih h with ⟨k, hk, x, hx⟩ | h
      · exact .inl ⟨k, .tail _ hk, x, hx⟩
      · exact .inr h
/-- Where a block of an operation's own stands. -/
theorem baseE_new {r : RS} {S : St} {n : Nat} {e : HEnt} {j : Nat} {x : OR} (hx : r j = some x) (hf : find (news x) n = some e) : ∀ {l : List Nat}, j ∈ l → (∀ k ∈ l, k ≠ j → ∀ y, r k = some y → find (news y) n = none) → baseE r S l n = some e := by
  intro l
  induction l with
  | nil => intro h; cases h
  | cons k l ih =>
    intro hj hu
    simp only [baseE]
    by_cases hk : k = j
    · subst hk
      rw [hx]
      simp only [Option.bind_some, hf]
    · have hn : ((r k).bind fun x => find (news x) n) = none := by
        cases hr : r k with
        | none => rfl
        | some y => simp only [Option.bind_some]; exact hu k (.head _) hk y hr
      rw [hn]
      refine ih ?_ (fun m hm => hu m (.tail _ hm))
      cases hj with
      | head => exact absurd rfl hk
      | tail _ h => exact h
theorem baseE_old {r : RS} {S : St} {n : Nat} : ∀ {l : List Nat}, (∀ k ∈ l, ∀ y, r k = some y → find (news y) n = none) → baseE r S l n = find S.heap n := by
  intro l
  induction l with
  | nil => intro _; rfl
  | cons k l ih =>
    intro hu
    simp only [baseE]
    have hn : ((r k).bind fun x => find (news x) n) = none := by
      cases hr : r k with
      | none => rfl
      | some y => simp only [Option.bind_some]; exact hu k (.head _) y hr
    rw [hn]
    exact ih (fun m hm => hu m (.tail _ hm))
theorem flatMap_same {α β : Type} {f g : α → List β} : ∀ {l : List α}, (∀ j ∈ l, f j = g j) → l.flatMap f = l.flatMap g := by
  intro l
  induction l with
  | nil => intro _; rfl
  | cons a l ih =>
    intro h
    rw [List.flatMap_cons, List.flatMap_cons, h a (.head _), ih (fun j hj => h j (.tail _ hj))]
/-- The view hangs on what lies before alone. -/
theorem viewOf_congr {r r' : RS} {ops : List Oper} {S : St} {l : List Nat} (h : ∀ j ∈ l, r j = r' j) (hide hideT : Nat → Bool) (kt kh : List Nat) (G : List E) (lo : Nat) : viewOf r ops S l hide hideT kt kh G lo = viewOf r' ops S l hide hideT kt kh G lo := by
  have hw : wrsOf r l = wrsOf r' l := by
    unfold wrsOf
    exact flatMap_same fun j hj => by unfold wrsAt; rw [h j hj]
  have hb : ∀ n, baseE r S l n = baseE r' S l n := by
    intro n
    clear hw
    induction l with
    | nil => rfl
    | cons k l ih =>
      simp only [baseE]
      rw [h k (.head _), ih (fun j hj => h j (.tail _ hj))]
  have he : ∀ n, entL r S l n = entL r' S l n := by
    intro n
    unfold entL applyW
    rw [hb, hw]
  have ht : ∀ t, tmpL r ops S l t = tmpL r' ops S l t := by
    intro t
    unfold tmpL
    split
    · split
      · rename_i j _ hc
        rw [h j (by simpa using hc)]
      · rfl
    · rfl
  unfold viewOf
  congr 1
  · congr 1; funext t; rw [ht]
  · congr 1; funext n; rw [he]
end Go.Proofs.Ytdfpenjhpemokaa.Sx
