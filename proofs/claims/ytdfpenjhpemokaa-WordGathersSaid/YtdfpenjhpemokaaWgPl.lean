/-
  The plain law of gathering: readings by label, then source; of each the last one. No program in sight.
-/
import Derived.Test.YtdfpenjhpemokaaWord3
set_option linter.unusedVariables false
namespace Go.Proofs.Ytdfpenjhpemokaa
open Go.RowKit
structure Rd where
  l : Int
  s : Int
  st : Int
  d : Int
theorem Rd.ext' {a b : Rd} (h1 : a.l = b.l) (h2 : a.s = b.s) (h3 : a.st = b.st) (h4 : a.d = b.d) : a = b := by
  cases a; cases b; simp_all
def Rd.lt (a b : Rd) : Prop := a.l < b.l ∨ (a.l = b.l ∧ a.s < b.s)
def Rd.same (a b : Rd) : Prop := a.l = b.l ∧ a.s = b.s
theorem Rd.lt_irrefl (a : Rd) : ¬ a.lt a := by unfold Rd.lt; omega
theorem Rd.lt_trans {a b c : Rd} (h1 : a.lt b) (h2 : b.lt c) : a.lt c := by unfold Rd.lt at *; omega
theorem Rd.lt_asymm {a b : Rd} (h1 : a.lt b) (h2 : b.lt a) : False := by unfold Rd.lt at *; omega
theorem Rd.tri (a b : Rd) : a.lt b ∨ a.same b ∨ b.lt a := by unfold Rd.lt Rd.same; omega
theorem Rd.lt_ns {a b : Rd} (h1 : a.lt b) : ¬ a.same b := by unfold Rd.lt Rd.same at *; omega
theorem Rd.lt_same {a b c : Rd} (h1 : a.lt b) (h2 : b.same c) : a.lt c := by unfold Rd.lt Rd.same at *; omega
theorem Rd.same_lt {a b c : Rd} (h1 : a.same b) (h2 : b.lt c) : a.lt c := by unfold Rd.lt Rd.same at *; omega
theorem Rd.same_symm {a b : Rd} (h1 : a.same b) : b.same a := ⟨h1.1.symm, h1.2.symm⟩
def rins (r : Rd) : List Rd → List Rd
  | [] => [r]
  | x :: t => if x.l < r.l ∨ (x.l = r.l ∧ x.s < r.s) then x :: rins r t else if x.l = r.l ∧ x.s = r.s then r :: t else r :: x :: t
theorem rins_mem {r q : Rd} : ∀ {L : List Rd}, L.Pairwise Rd.lt → (q ∈ rins r L ↔ q = r ∨ (q ∈ L ∧ ¬ q.same r))
  | [], _ => by simp [rins]
  | x :: t, hp => by
    obtain ⟨h1, h2⟩ := List.pairwise_cons.1 hp
    have ih := rins_mem (r := r) (q := q) h2
    simp only [rins]
    split
    · rename_i hc
      have hns : ¬ x.same r := Rd.lt_ns hc
      rw [List.mem_cons, ih, List.mem_cons]
      constructor
      · rintro (rfl | rfl | ⟨h3, h4⟩)
        · exact .inr ⟨.inl rfl, hns⟩
        · exact .inl rfl
        · exact .inr ⟨.inr h3, h4⟩
      · rintro (rfl | ⟨rfl | h3, h4⟩)
        · exact .inr (.inl rfl)
        · exact .inl rfl
        · exact .inr (.inr ⟨h3, h4⟩)
    · rename_i hc
      split
      · rename_i hs
        rw [List.mem_cons, List.mem_cons]
        constructor
        · rintro (rfl | h3)
          · exact .inl rfl
          · exact .inr ⟨.inr h3, fun h => Rd.lt_irrefl x (Rd.lt_same (h1 q h3) (by exact ⟨h.1.trans hs.1.symm, h.2.trans hs.2.symm⟩))⟩
        · rintro (rfl | ⟨rfl | h3, h4⟩)
          · exact .inl rfl
          · exact absurd hs h4
          · exact .inr h3
      · rename_i hs
        have hlt : r.lt x := by
          rcases Rd.tri r x with h | h | h
          · exact h
          · exact absurd ⟨h.1.symm, h.2.symm⟩ hs
          · exact absurd h hc
        rw [List.mem_cons]
        constructor
        · rintro (rfl | h3)
          · exact .inl rfl
          · refine .inr ⟨h3, ?_⟩
            rcases List.mem_cons.1 h3 with rfl | h3
            · exact fun h => Rd.lt_ns hlt (Rd.same_symm h)
            · exact fun h => Rd.lt_ns (Rd.lt_trans hlt (h1 q h3)) (Rd.same_symm h)
        · rintro (rfl | ⟨h3, h4⟩)
          · exact .inl rfl
          · exact .inr h3
theorem rins_sorted {r : Rd} : ∀ {L : List Rd}, L.Pairwise Rd.lt → (rins r L).Pairwise Rd.lt
  | [], _ => by simp [rins]
  | x :: t, hp => by
    obtain ⟨h1, h2⟩ := List.pairwise_cons.1 hp
    simp only [rins]
    split
    · rename_i hc
      refine List.pairwise_cons.2 ⟨fun q hq => ?_, rins_sorted h2⟩
      rcases (rins_mem h2).1 hq with rfl | ⟨h3, _⟩
      · exact hc
      · exact h1 q h3
    · rename_i hc
      split
      · rename_i hs
        exact List.pairwise_cons.2 ⟨fun q hq => Rd.same_lt ⟨hs.1.symm, hs.2.symm⟩ (h1 q hq), h2⟩
      · rename_i hs
        have hlt : r.lt x := by
          rcases Rd.tri r x with h | h | h
          · exact h
          · exact absurd ⟨h.1.symm, h.2.symm⟩ hs
          · exact absurd h hc
        refine List.pairwise_cons.2 ⟨fun q hq => ?_, hp⟩
        rcases List.mem_cons.1 hq with rfl | h3
        · exact hlt
        · exact Rd.lt_trans hlt (h1 q h3)
theorem rins_len (r : Rd) : ∀ L : List Rd, (rins r L).length ≤ L.length + 1
  | [] => by simp [rins]
  | x :: t => by
    have := rins_len r t
    simp only [rins]
    split
    · simp; omega
    · split <;> simp
theorem rins_at {r : Rd} : ∀ {L : List Rd} {j : Nat}, j ≤ L.length → (∀ i q, i < j → L[i]? = some q → q.lt r) → (∀ q, L[j]? = some q → ¬ q.lt r) →
    (∀ q, L[j]? = some q → q.same r → rins r L = L.set j r) ∧ ((∀ q, L[j]? = some q → ¬ q.same r) → rins r L = L.take j ++ r :: L.drop j)
  | [], j, hj, _, _ => by
    have : j = 0 := by simpa using hj
    subst this
    exact ⟨fun q h => (by simp at h), fun _ => rfl⟩
  | x :: t, 0, _, _, h2 => by
    have hx : ¬ (x.l < r.l ∨ (x.l = r.l ∧ x.s < r.s)) := h2 x rfl
    refine ⟨fun q h hs => ?_, fun h => ?_⟩
    · cases h
      simp only [rins]
      rw [if_neg hx, if_pos (show x.l = r.l ∧ x.s = r.s from hs)]
      rfl
    · simp only [rins]
      rw [if_neg hx, if_neg (show ¬ (x.l = r.l ∧ x.s = r.s) from h x rfl)]
      rfl
  | x :: t, j + 1, hj, h1, h2 => by
    have hx : x.l < r.l ∨ (x.l = r.l ∧ x.s < r.s) := h1 0 x (by omega) rfl
    obtain ⟨i1, i2⟩ := rins_at (r := r) (L := t) (j := j) (by simpa using hj) (fun i q hi hq => h1 (i + 1) q (by omega) hq) (fun q hq => h2 q hq)
    refine ⟨fun q h hs => ?_, fun h => ?_⟩
    · simp only [rins]
      rw [if_pos hx, i1 q h hs]
      rfl
    · simp only [rins]
      rw [if_pos hx, i2 h]
      rfl
theorem sorted_eq : ∀ {L M : List Rd}, L.Pairwise Rd.lt → M.Pairwise Rd.lt → (∀ q, q ∈ L ↔ q ∈ M) → L = M
  | [], [], _, _, _ => rfl
  | [], y :: M, _, _, h => absurd ((h y).2 (List.mem_cons_self)) (by simp)
  | x :: L, [], _, _, h => absurd ((h x).1 (List.mem_cons_self)) (by simp)
  | x :: L, y :: M, hL, hM, h => by
    obtain ⟨a1, a2⟩ := List.pairwise_cons.1 hL
    obtain ⟨b1, b2⟩ := List.pairwise_cons.1 hM
    have hxy : x = y := by
      rcases List.mem_cons.1 ((h x).1 List.mem_cons_self) with e | e
      · exact e
      · rcases List.mem_cons.1 ((h y).2 List.mem_cons_self) with e' | e'
        · exact e'.symm
        · exact absurd (Rd.lt_asymm (a1 y e') (b1 x e)) id
    subst hxy
    congr 1
    refine sorted_eq a2 b2 fun q => ?_
    constructor
    · intro hq
      rcases List.mem_cons.1 ((h q).1 (List.mem_cons_of_mem _ hq)) with e | e
      · exact absurd (a1 q hq) (e ▸ Rd.lt_irrefl q)
      · exact e
    · intro hq
      rcases List.mem_cons.1 ((h q).2 (List.mem_cons_of_mem _ hq)) with e | e
      · exact absurd (b1 q hq) (e ▸ Rd.lt_irrefl q)
      · exact e
theorem sorted_uniq {L : List Rd} (hp : L.Pairwise Rd.lt) {a b : Rd} (ha : a ∈ L) (hb : b ∈ L) (hs : a.same b) : a = b := by
  induction L with
  | nil => cases ha
  | cons x t ih =>
    obtain ⟨h1, h2⟩ := List.pairwise_cons.1 hp
    rcases List.mem_cons.1 ha with e | e <;> rcases List.mem_cons.1 hb with e' | e'
    · rw [e, e']
    · exact absurd hs (Rd.lt_ns (e ▸ h1 b e'))
    · exact absurd (Rd.same_symm hs) (Rd.lt_ns (e' ▸ h1 a e))
    · exact ih h2 e e'
def rdOf (x : Nat) : Rd := ⟨(turn8 x : Nat), (x / 256 % 4 : Nat), (x / 536870912 % 4 : Nat), pdata x⟩
def Rd.Fine (r : Rd) : Prop := 0 ≤ r.l ∧ r.l ≤ 255 ∧ 0 ≤ r.s ∧ r.s ≤ 3 ∧ 0 ≤ r.st ∧ r.st ≤ 3 ∧ -1000000 ≤ r.d ∧ r.d ≤ 1000000
theorem rdOf_fine (x : Nat) : (rdOf x).Fine := by
  have h1 := turn8_lt x
  have h2 : -1000000 ≤ pdata x ∧ pdata x ≤ 1000000 := by
    unfold pdata
    split <;> omega
  refine ⟨?_, ?_, ?_, ?_, ?_, ?_, h2.1, h2.2⟩
  · show 0 ≤ ((turn8 x : Nat) : Int); omega
  · show ((turn8 x : Nat) : Int) ≤ 255; omega
  · show 0 ≤ ((x / 256 % 4 : Nat) : Int); omega
  · show ((x / 256 % 4 : Nat) : Int) ≤ 3; omega
  · show 0 ≤ ((x / 536870912 % 4 : Nat) : Int); omega
  · show ((x / 536870912 % 4 : Nat) : Int) ≤ 3; omega
def gath (f : Nat → Nat) : Nat → List Rd
  | 0 => []
  | k + 1 => if podd (f k) = true then rins (rdOf (f k)) (gath f k) else gath f k
def gbad (f : Nat → Nat) : Nat → Nat
  | 0 => 0
  | k + 1 => if podd (f k) = true then gbad f k else gbad f k + 1
theorem gath_sorted (f : Nat → Nat) : ∀ k, (gath f k).Pairwise Rd.lt
  | 0 => List.Pairwise.nil
  | k + 1 => by
    have ih := gath_sorted f k
    simp only [gath]
    split
    · exact rins_sorted ih
    · exact ih
theorem gath_len (f : Nat → Nat) : ∀ k, (gath f k).length ≤ k
  | 0 => Nat.le_refl _
  | k + 1 => by
    have ih := gath_len f k
    have h := rins_len (rdOf (f k)) (gath f k)
    simp only [gath]
    split <;> omega
theorem gath_fine (f : Nat → Nat) : ∀ k, ∀ r ∈ gath f k, r.Fine
  | 0, r, h => by cases h
  | k + 1, r, h => by
    have ih := gath_fine f k
    simp only [gath] at h
    split at h
    · rcases (rins_mem (gath_sorted f k)).1 h with rfl | ⟨h1, _⟩
      · exact rdOf_fine _
      · exact ih r h1
    · exact ih r h
theorem gbad_le (f : Nat → Nat) : ∀ k, gbad f k ≤ k
  | 0 => Nat.le_refl _
  | k + 1 => by
    have ih := gbad_le f k
    simp only [gbad]
    split <;> omega
def Rd.val (r : Rd) : Value := .agg #[.int .i64 r.l, .int .i64 r.s, .int .i64 r.st, .int .i64 r.d]
def rdL (L : List Rd) : List Value := L.flatMap fun r => [.int .i64 r.l, .int .i64 r.s, .int .i64 r.st, .int .i64 r.d]
theorem rdL_len : ∀ L : List Rd, (rdL L).length = L.length * 4
  | [] => rfl
  | r :: t => by
    have := rdL_len t
    show (rdL t).length + 1 + 1 + 1 + 1 = (t.length + 1) * 4
    omega
theorem rdL_snoc (L : List Rd) (r : Rd) : rdL (L ++ [r]) = rdL L ++ [.int .i64 r.l, .int .i64 r.s, .int .i64 r.st, .int .i64 r.d] := by simp [rdL]
theorem rdL_app (L M : List Rd) : rdL (L ++ M) = rdL L ++ rdL M := by simp [rdL]
theorem rdL_at : ∀ (L : List Rd) (i : Nat) (r : Rd), L[i]? = some r → (rdL L)[i * 4]? = some (.int .i64 r.l) ∧ (rdL L)[i * 4 + 1]? = some (.int .i64 r.s) ∧ (rdL L)[i * 4 + 2]? = some (.int .i64 r.st) ∧ (rdL L)[i * 4 + 3]? = some (.int .i64 r.d)
  | [], i, r, h => by simp at h
  | x :: t, 0, r, h => by
    cases h
    exact ⟨rfl, rfl, rfl, rfl⟩
  | x :: t, i + 1, r, h => by
    have ih := rdL_at t i r h
    have e : (i + 1) * 4 = i * 4 + 1 + 1 + 1 + 1 := by omega
    rw [e]
    exact ih
theorem rdL_set : ∀ (L : List Rd) (i : Nat) (r : Rd), i < L.length → rdL (L.set i r) = ((((rdL L).set (i * 4) (.int .i64 r.l)).set (i * 4 + 1) (.int .i64 r.s)).set (i * 4 + 2) (.int .i64 r.st)).set (i * 4 + 3) (.int .i64 r.d)
  | [], i, r, h => absurd h (Nat.not_lt_zero _)
  | x :: t, 0, r, h => rfl
  | x :: t, i + 1, r, h => by
    have ih := rdL_set t i r (by simpa using h)
    have e : (i + 1) * 4 = i * 4 + 1 + 1 + 1 + 1 := by omega
    rw [e]
    show rdL (x :: t.set i r) = _
    have e2 : ∀ M, rdL (x :: M) = .int .i64 x.l :: .int .i64 x.s :: .int .i64 x.st :: .int .i64 x.d :: rdL M := fun _ => rfl
    rw [e2, e2, ih]
    rfl
theorem rdL_take (L : List Rd) (i : Nat) : rdL (L.take i) = (rdL L).take (i * 4) := by
  induction L generalizing i with
  | nil => simp [rdL]
  | cons x t ih =>
    cases i with
    | zero => simp [rdL]
    | succ i =>
      have e : (i + 1) * 4 = i * 4 + 1 + 1 + 1 + 1 := by omega
      rw [e]
      have e2 : ∀ M, rdL (x :: M) = .int .i64 x.l :: .int .i64 x.s :: .int .i64 x.st :: .int .i64 x.d :: rdL M := fun _ => rfl
      rw [List.take_succ_cons, e2, e2, ih]
      rfl
theorem rdL_drop (L : List Rd) (i : Nat) : rdL (L.drop i) = (rdL L).drop (i * 4) := by
  induction L generalizing i with
  | nil => simp [rdL]
  | cons x t ih =>
    cases i with
    | zero => simp
    | succ i =>
      have e : (i + 1) * 4 = i * 4 + 1 + 1 + 1 + 1 := by omega
      rw [e]
      have e2 : ∀ M, rdL (x :: M) = .int .i64 x.l :: .int .i64 x.s :: .int .i64 x.st :: .int .i64 x.d :: rdL M := fun _ => rfl
      rw [List.drop_succ_cons, e2, ih]
      rfl
theorem rdL_one : ∀ (L : List Rd), ∀ u ∈ rdL L, u.oneCell' = true
  | [], u, h => by cases h
  | x :: t, u, h => by
    have e2 : ∀ M, rdL (x :: M) = .int .i64 x.l :: .int .i64 x.s :: .int .i64 x.st :: .int .i64 x.d :: rdL M := fun _ => rfl
    rw [e2] at h
    simp only [List.mem_cons] at h
    rcases h with rfl | rfl | rfl | rfl | h
    · rfl
    · rfl
    · rfl
    · rfl
    · exact rdL_one t u h
end Go.Proofs.Ytdfpenjhpemokaa
