/-
  The iterator of table.turns: what it yields.
-/
import Derived.Test.YtdfpenjhpemokaaLineK
import Derived.Test.YtdfpenjhpemokaaGuard
import Derived.RangeFuncNested
import Derived.RangeFuncBound
import Derived.RangeFuncCalls
import Derived.RangeFuncLeaves
import Derived.Shelf.Abstract
import Derived.WalkKit
import Derived.OwnWalkIn
import Derived.TacticsInMore
import Derived.LoopNIn
import Derived.LoopIn
set_option linter.unusedVariables false
set_option linter.unusedSimpArgs false
namespace Go.Proofs.Ytdfpenjhpemokaa.Sx
open Go.RowKit Go.Shelf
attribute [local go_sem] Oper.semAt_some

/-- What has come when k points have been looked at. -/
abbrev N64 := { x : Int // B64 x }
def ovF (f : Nat → N64) (lo hi : N64) : Nat → List N64
  | 0 => [lo, hi]
  | k + 1 => if lo.1 ≤ (f k).1 ∧ (f k).1 ≤ hi.1 then ovF f lo hi k ++ [f k] else ovF f lo hi k
theorem ovF_len (f : Nat → N64) (lo hi : N64) : ∀ k, (ovF f lo hi k).length ≤ k + 2 := by
  intro k
  induction k with
  | zero => exact Nat.le_refl _
  | succ k ih =>
    simp only [ovF]
    split
    · simp; omega
    · omega
/-- What a round keeps: what lay below n, and the cells of two blocks. -/
structure KpO (n A B : Nat) (W W' : World) : Prop where
  b : Below n W W'
  c : ∀ o, W'.cell? ⟨A, o, none⟩ = W.cell? ⟨A, o, none⟩
  d : ∀ o, W'.cell? ⟨B, o, none⟩ = W.cell? ⟨B, o, none⟩
theorem KpO.refl (n A B : Nat) (W : World) : KpO n A B W W := ⟨Below.refl _ _, fun _ => rfl, fun _ => rfl⟩
theorem KpO.trans {n A B : Nat} {W X Y : World} (h : KpO n A B W X) (k : KpO n A B X Y) : KpO n A B W Y := ⟨h.b.trans k.b, fun o => (k.c o).trans (h.c o), fun o => (k.d o).trans (h.d o)⟩
theorem KpO.put {n A B : Nat} {w : World} (hn : n ≤ w.heap.size) (hA : A < w.heap.size) (hB : B < w.heap.size) (W : World) (l : Nat) (o o' : Obj) (hl : w.heap.size ≤ l) (h : W.heap[l]? = some o) (h1 : o.isCells = false) (h2 : o.isWalk = false) : KpO n A B W (W.putObj l o') :=
  ⟨belowK_b hn W l o o' hl h h1 h2, fun p => World.cell?_of_block (w := W) (World.putObj_heap_other (by show A ≠ l; omega)), fun p => World.cell?_of_block (w := W) (World.putObj_heap_other (by show B ≠ l; omega))⟩
set_option maxRecDepth 100000 in
set_option maxHeartbeats 4000000 in
theorem turns1_in (l Bs Bl n₀ m : Nat) (g : GD) (f : Nat → N64) (hf : ∀ k, (f k).1 = g.f k) (hgn : g.n ≤ 1000) (lo hi : N64) (J Jx : List N64 → World → Prop)
    (hY : ∀ pre x W, J pre W → pre.length < g.n + 2 → YieldAt Fence.wide 2 Try.prog l #[.int .i64 x.1] W fun e W' =>
      (e = .returned (.bool true) ∧ J (pre ++ [x]) W' ∧ KpO n₀ Bs Bl W W') ∨ (e = .returned (.bool false) ∧ Jx (pre ++ [x]) W'))
    (hJ : AbidesFrom m J)
    (W : World) (hn : n₀ ≤ W.heap.size) (hbs : Bs < W.heap.size) (hbl : Bl < W.heap.size) (hc0 : W.cell? ⟨Bs, 0, none⟩ = some (.int .i64 lo.1)) (hc1 : W.cell? ⟨Bs, 1, none⟩ = some (.int .i64 hi.1)) (hl0 : W.cell? ⟨Bl, 0, none⟩ = some (.slice g.A g.n g.c))
    (hg : ∀ i, i < g.n → ∃ bl off, g.A = some ⟨bl, off, none⟩ ∧ bl < n₀ ∧ W.cell? ⟨bl, off + i, none⟩ = some (.int .i64 (g.f i))) (h0 : J [] W) :
    CallsIn Fence.wide 3 Try.prog 173 #[.func (.yield l) #[] #[], .pointer (some ⟨Bs, 0, none⟩), .pointer (some ⟨Bl, 0, none⟩)] W fun e W' => (∃ v, e = .returned v) ∧
      ((∃ ys, ys = ovF f lo hi g.n ∧ J ys W') ∨ (∃ pre, True ∧ Jx pre W')) := by
  obtain ⟨lo, blo⟩ := lo
  obtain ⟨hi, bhi⟩ := hi
  refine callsIn_of_wp Try.func173 rfl trivial ?_ rfl
  simp only [Try.ntmps173, List.size_toArray, List.length_cons, List.length_nil, Nat.reduceAdd, Nat.reduceSub, Array.replicate_succ, Array.replicate_zero, List.push_toArray, List.append_toArray, List.nil_append, List.cons_append]
  obtain ⟨fn, tmps, assign, body, hy, hR⟩ := hY [] ⟨lo, blo⟩ W h0 (by simp)
  gi_wp2
  refine hR.mono ?_
  rintro e W1 (⟨rfl, hJ1, k1⟩ | ⟨rfl, hx⟩)
  case inr =>
    gi_wp2
    try (refine ⟨fun _ h => (by cases h), ?_⟩; gi_wp2)
    refine bodyPost_ret (results_none rfl _ _ _) rfl ?_
    exact ⟨⟨_, rfl⟩, .inr ⟨_, trivial, hx⟩⟩
  obtain ⟨fn1, tmps1, assign1, body1, hy1, hR1⟩ := hY [⟨lo, blo⟩] ⟨hi, bhi⟩ W1 hJ1 (by simp)
  have c1 : W1.cell? ⟨Bs, 1, none⟩ = some (.int .i64 hi) := (k1.c 1).trans hc1
  gi_wp2
  refine hR1.mono ?_
  rintro e W2 (⟨rfl, hJ2, k2⟩ | ⟨rfl, hx⟩)
  case inr =>
    gi_wp2
    try (refine ⟨fun _ h => (by cases h), ?_⟩; gi_wp2)
    refine bodyPost_ret (results_none rfl _ _ _) rfl ?_
    exact ⟨⟨_, rfl⟩, .inr ⟨_, trivial, hx⟩⟩
  have k2 := k1.trans k2
  have l2 : W2.cell? ⟨Bl, 0, none⟩ = some (.slice g.A g.n g.c) := (k2.d 0).trans hl0
  gi_wp2
  gi_loopw [21] (fun i wr => ∃ k : Nat, k ≤ g.n ∧ i = .int .i64 k ∧ J (ovF f ⟨lo, blo⟩ ⟨hi, bhi⟩ k) wr ∧ KpO n₀ Bs Bl W wr) (fun i _ => g.n - (intOf i).toNat)
  case atStart => exact ⟨0, Nat.zero_le _, rfl, hJ2, k2⟩
  case round =>
    obtain ⟨k, hkn, rfl, hJs, hkp⟩ := hrel
    have hsB : Bs < wr.heap.size := by have := hkp.b.size; omega
    have hlB : Bl < wr.heap.size := by have := hkp.b.size; omega
    have c0 : wr.cell? ⟨Bs, 0, none⟩ = some (.int .i64 lo) := (hkp.c 0).trans hc0
    have c1 : wr.cell? ⟨Bs, 1, none⟩ = some (.int .i64 hi) := (hkp.c 1).trans hc1
    by_cases hlt : k < g.n
    · obtain ⟨bl, off, hA, hb, hcell⟩ := hg k hlt
      have hcell := (hkp.b.cell (p := ⟨bl, off + k, none⟩) hb).trans hcell
      rw [hA] at *
      have hJa : J (ovF f ⟨lo, blo⟩ ⟨hi, bhi⟩ k) (wr.alloc (.cells #[.int .i64 lo, .int .i64 hi] 41)) := hJ _ _ _ none hJs (World.grownBy_alloc wr _ none) (fun r e => by cases e)
      have hka : KpO n₀ Bs Bl W (wr.alloc (.cells #[.int .i64 lo, .int .i64 hi] 41)) := ⟨hkp.b.alloc (by have := hkp.b.size; omega) _, fun o => by
        have := hkp.c o
        exact (World.cell?_of_block (w := wr) (Below.heap_alloc _ _ _ hsB)).trans this, fun o => by
        have := hkp.d o
        exact (World.cell?_of_block (w := wr) (Below.heap_alloc _ _ _ hlB)).trans this⟩
      by_cases hin : lo ≤ g.f k ∧ g.f k ≤ hi
      · have hin' : (decide (lo ≤ g.f k) && decide (g.f k ≤ hi)) = true := by simp [hin.1, hin.2]
        obtain ⟨fn2, tmps2, assign2, body2, hy2, hR2⟩ := hY _ (f k) _ hJa (by have := ovF_len f ⟨lo, blo⟩ ⟨hi, bhi⟩ k; omega)
        rw [hf k] at hy2
        gi_wp2_with (first | (refine ⟨trivial, ?_⟩; gi_at_call 46; refine (callsIn_wide.2 (fixIn _ _ _ _)).mono ?_; rintro e w' ⟨rfl, rfl⟩))
        refine hR2.mono ?_
        rintro e W3 (⟨rfl, hJ3, k3⟩ | ⟨rfl, hx⟩)
        case inr =>
          gi_wp2
          try (refine ⟨fun _ h => (by cases h), ?_⟩; gi_wp2)
          refine bodyPost_ret (results_none rfl _ _ _) rfl ?_
          exact ⟨⟨_, rfl⟩, .inr ⟨_, trivial, hx⟩⟩
        gi_wp2
        go_roundw
        case rel => exact ⟨k + 1, by omega, by go_num, by rw [ovF, if_pos (by rw [hf]; exact hin)]; exact hJ3, hka.trans k3⟩
        case measure => simp [intOf]; omega
      · have hin' : (decide (lo ≤ g.f k) && decide (g.f k ≤ hi)) = false := by
          rw [Bool.eq_false_iff]; intro h; rw [Bool.and_eq_true, decide_eq_true_eq, decide_eq_true_eq] at h; exact hin h
        gi_wp2_with (first | (refine ⟨trivial, ?_⟩; gi_at_call 46; refine (callsIn_wide.2 (fixIn _ _ _ _)).mono ?_; rintro e w' ⟨rfl, rfl⟩))
        refine ⟨fun _ h => (by cases h), ?_⟩
        gi_wp2
        go_roundw
        case rel => exact ⟨k + 1, by omega, by go_num, by rw [ovF, if_neg (by rw [hf]; exact hin)]; exact hJa, hka⟩
        case measure => simp [intOf]; omega
    · obtain rfl : k = g.n := by omega
      gi_wp2
      go_end0
      exact ⟨⟨_, rfl⟩, .inl ⟨_, rfl, hJs⟩⟩
end Go.Proofs.Ytdfpenjhpemokaa.Sx
