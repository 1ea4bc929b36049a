/-
  table.Over, of a line and a span that may be.
-/
import Derived.Test.YtdfpenjhpemokaaOver1
import Derived.Test.YtdfpenjhpemokaaSpan
import Derived.Deep.DeepCutAuto
import Derived.Shelf.RegionOpen
set_option linter.unusedVariables false
set_option linter.unusedSimpArgs false
namespace Go.Proofs.Ytdfpenjhpemokaa.Sx
open Go.RowKit Go.Shelf
attribute [local go_sem] Oper.semAt_some
theorem tCheck_is (g d : GD) (hk : g.ks = [true]) (hk' : d.ks = [true]) (hn : g.n ≤ 1000) (hn' : d.n ≤ 1000) (w : World) (o : g.ok w) (o' : d.ok w) (k : Int) (h : Unit → pline g.f g.n d.f d.n = k) :
    Calls Try.prog 81 #[.agg #[.slice g.A g.n g.c, .slice d.A d.n d.c]] w fun e w' => e = .returned (errV k) ∧ Below w.heap.size w w' := by
  rw [← h ()]; exact tableCheck g d hk hk' hn hn' w o o'
theorem fCheck_is (a b k : Int) (w : World) (h : Unit → pspan a b = k) : Calls Try.prog 45 #[.agg #[.int .i64 a, .int .i64 b]] w fun e w' => e = .returned (errV k) ∧ w.alloc (.cells #[.int .i64 a, .int .i64 b] 41) = w' := by
  rw [← h ()]; exact fixCheck a b w
theorem tLook_is (g d : GD) (hk : g.ks = [true]) (hk' : d.ks = [true]) (hn : g.n ≤ 1000) (hn' : d.n ≤ 1000) (x : Int) (hx : B64 x) (hpl : Unit → pline g.f g.n d.f d.n = 0) (w : World) (o : g.ok w) (o' : d.ok w) (y : Int) (h : Unit → plook g.f d.f g.n x = y) :
    Calls Try.prog 149 #[.agg #[.slice g.A g.n g.c, .slice d.A d.n d.c], .int .i64 x] w fun e w' => e = .returned (.int .i64 y) ∧ Below w.heap.size w w' := by
  rw [← h ()]; exact tableLook0 g d hk hk' hn hn' x hx (hpl ()) w o o'
theorem GD.ok.below {g : GD} {w w' : World} (h : g.ok w) (hb : Below w.heap.size w w') : g.ok w' :=
  ⟨h.n, fun i j hi hj => by
    obtain ⟨bl, off, h1, h2, h3⟩ := h.cell i j hi hj
    exact ⟨bl, off, h1, Nat.lt_of_lt_of_le h2 hb.size, (hb.cell (p := ⟨bl, off + (i * g.ks.length + j), Option.none⟩) h2).trans h3⟩, h.b64⟩
/-- The hull of what has come. -/
def ovHull (L : Int → Int) (a : Int) (xs : List N64) : Int × Int := xs.foldl (fun p x => (min p.1 (L x.1), max p.2 (L x.1))) (a, a)
theorem ovHull_snoc (L : Int → Int) (a : Int) (xs : List N64) (x : N64) : ovHull L a (xs ++ [x]) = (min (ovHull L a xs).1 (L x.1), max (ovHull L a xs).2 (L x.1)) := by
  simp [ovHull]
def gd64 (g : GD) (h : ∀ i j, B64 (g.fi i j)) (k : Nat) : N64 := ⟨g.f k, h k 0⟩
theorem hull1 (a b L : Int) (blk c : Nat) (w : World) (hb : blk < w.heap.size) (hc : w.cell? ⟨blk, 0, Option.none⟩ = some (.int .i64 L)) :
    Calls Try.prog 161 #[.agg #[.int .i64 a, .int .i64 b], .slice (some ⟨blk, 0, Option.none⟩) 1 c] w fun e w' => e = .returned (.agg #[.int .i64 (min a L), .int .i64 (max b L)]) ∧ Below w.heap.size w w' := by
  have hc' : ∀ i, i < 1 → w.cell? ⟨blk, i, Option.none⟩ = some (.int .i64 ((fun _ : Nat => L) i)) := by
    intro i hi
    have : i = 0 := by omega
    subst this
    exact hc
  refine (fixHull a b (fun _ => L) blk 1 c w (by omega) hb hc').mono ?_
  rintro e w' ⟨h1, h2⟩
  refine ⟨?_, h2⟩
  rw [h1]
  have e1 : hmin a (fun _ => L) 1 = min a L := by
    show (if L < a then L else a) = min a L
    by_cases h : L < a
    · rw [if_pos h]; omega
    · rw [if_neg h]; omega
  have e2 : hmax b (fun _ => L) 1 = max b L := by
    show (if b < L then L else b) = max b L
    by_cases h : b < L
    · rw [if_pos h]; omega
    · rw [if_neg h]; omega
  rw [e1, e2]
theorem turnsC (g d : GD) (lo hi : Int) (w : World) :
    Calls Try.prog 160 #[.agg #[.slice g.A g.n g.c, .slice d.A d.n d.c], .agg #[.int .i64 lo, .int .i64 hi]] w fun e w' => e = .returned (.func (.func 173) #[] #[.pointer (some ⟨w.heap.size + 1, 0, Option.none⟩), .pointer (some ⟨w.heap.size, 0, Option.none⟩)]) ∧
      (w.alloc (.cells #[.slice g.A g.n g.c, .slice d.A d.n d.c] 81)).alloc (.cells #[.int .i64 lo, .int .i64 hi] 41) = w' := by
  go_enter Try.func160, Try.ntmps160
  go_wp2
  go_ret
  exact ⟨rfl, rfl⟩
/-- Two cells of a block, that may be written. -/
structure Pair (t : Nat) (a b : Int) (W : World) : Prop where
  lt : t < W.heap.size
  c0 : W.cell? ⟨t, 0, Option.none⟩ = some (.int .i64 a)
  c1 : W.cell? ⟨t, 1, Option.none⟩ = some (.int .i64 b)
  f0 : W.frozen? ⟨t, 0, Option.none⟩ = false
  f1 : W.frozen? ⟨t, 1, Option.none⟩ = false
theorem Pair.below {t : Nat} {a b : Int} {W W' : World} (h : Pair t a b W) (hb : Below W.heap.size W W') : Pair t a b W' :=
  ⟨Nat.lt_of_lt_of_le h.lt hb.size, (hb.cell (p := ⟨t, 0, Option.none⟩) h.lt).trans h.c0, (hb.cell (p := ⟨t, 1, Option.none⟩) h.lt).trans h.c1, (hb.frozen (p := ⟨t, 0, Option.none⟩) h.lt).trans h.f0, (hb.frozen (p := ⟨t, 1, Option.none⟩) h.lt).trans h.f1⟩
theorem look_in (l n : Nat) (g d : GD) (hk : g.ks = [true]) (hk' : d.ks = [true]) (hn : g.n ≤ 1000) (hn' : d.n ≤ 1000) (x : N64) (hp : Unit → pline g.f g.n d.f d.n = 0) (L : Int) (hL : Unit → plook g.f d.f g.n x.1 = L) (W : World) (hW : g.ok W ∧ d.ok W) {t : Nat} {a b : Int} (h : Pair t a b W) :
    CallsIn (Fence.wide.inRound l) n Try.prog 149 #[.agg #[.slice g.A g.n g.c, .slice d.A d.n d.c], .int .i64 x.1] W fun e w' => e = .returned (.int .i64 L) ∧ Below W.heap.size W w' ∧ Pair t a b w' := by
  refine (CallsIn.inRound l (callsIn_wide.2 (tLook_is g d hk hk' hn hn' _ x.2 hp _ hW.1 hW.2 L hL))).mono ?_
  rintro e w' ⟨h1, h2⟩
  exact ⟨h1, h2, h.below h2⟩
theorem hull_in (l n : Nat) (a b L : Int) (blk c : Nat) (W : World) (hb : blk < W.heap.size) (hc : W.cell? ⟨blk, 0, Option.none⟩ = some (.int .i64 L)) {t : Nat} {p q : Int} (h : Pair t p q W) :
    CallsIn (Fence.wide.inRound l) n Try.prog 161 #[.agg #[.int .i64 a, .int .i64 b], .slice (some ⟨blk, 0, Option.none⟩) 1 c] W fun e w' => e = .returned (.agg #[.int .i64 (min a L), .int .i64 (max b L)]) ∧ Below W.heap.size W w' ∧ w'.cell? ⟨t, 0, Option.none⟩ = some (.int .i64 p) ∧ w'.cell? ⟨t, 1, Option.none⟩ = some (.int .i64 q) ∧ w'.frozen? ⟨t, 0, Option.none⟩ = false ∧ w'.frozen? ⟨t, 1, Option.none⟩ = false := by
  refine (CallsIn.inRound l (callsIn_wide.2 (hull1 a b L blk c W hb hc))).mono ?_
  rintro e w' ⟨h1, h2⟩
  have h3 := h.below h2
  exact ⟨h1, h2, h3.c0, h3.c1, h3.f0, h3.f1⟩
theorem Pair.alloc {t : Nat} {a b : Int} {W : World} (h : Pair t a b W) (o : Obj) : Pair t a b (W.alloc o) := h.below ((Below.refl _ W).alloc (Nat.le_refl _) o)
theorem Pair.drew {t : Nat} {a b : Int} {W : World} (h : Pair t a b W) : Pair t a b W.drew := ⟨h.lt, h.c0, h.c1, h.f0, h.f1⟩
/-- Behind a round: the two cells are new, all else is as it was. -/
theorem round_end {n t A B : Nat} {m M : Int} {W w5 : World} (hb : Below W.heap.size W w5) (hn : n ≤ t) (ht : t < W.heap.size) (hA : A < W.heap.size) (hB : B < W.heap.size) (nA : A ≠ t) (nB : B ≠ t) :
    KeepsOthers W ((w5.setCell ⟨t, 0, Option.none⟩ (.int .i64 m)).setCell ⟨t, 1, Option.none⟩ (.int .i64 M)) ∧ KpO n A B W ((w5.setCell ⟨t, 0, Option.none⟩ (.int .i64 m)).setCell ⟨t, 1, Option.none⟩ (.int .i64 M)) := by
  refine ⟨KeepsOthers.trans (KeepsOthers.trans ⟨hb.size, fun k o h _ => (hb.block k (Array.getElem?_eq_some_iff.1 h).1).trans h⟩ (KeepsOthers.setCell _ _ _)) (KeepsOthers.setCell _ _ _), ?_, fun o => ?_, fun o => ?_⟩
  · exact ((hb.mono (by omega)).setCell (p := ⟨t, 0, Option.none⟩) hn _).setCell (p := ⟨t, 1, Option.none⟩) hn _
  · refine World.cell?_of_block (w := W) ?_
    rw [Below.heap_setCell _ _ _ _ nA, Below.heap_setCell _ _ _ _ nA]
    exact hb.block _ hA
  · refine World.cell?_of_block (w := W) ?_
    rw [Below.heap_setCell _ _ _ _ nB, Below.heap_setCell _ _ _ _ nB]
    exact hb.block _ hB
theorem other_cell {n t : Nat} {m M : Int} {W w5 : World} (hb : Below W.heap.size W w5) {A o : Nat} {v : Value} (hA : A < W.heap.size) (nA : A ≠ t) (h : W.cell? ⟨A, o, Option.none⟩ = some v) : ((w5.setCell ⟨t, 0, Option.none⟩ (.int .i64 m)).setCell ⟨t, 1, Option.none⟩ (.int .i64 M)).cell? ⟨A, o, Option.none⟩ = some v := by
  refine (World.cell?_of_block (w := W) ?_).trans h
  rw [Below.heap_setCell _ _ _ _ nA, Below.heap_setCell _ _ _ _ nA]
  exact hb.block _ hA
theorem other_frozen {t : Nat} {m M : Int} {W w5 : World} (hb : Below W.heap.size W w5) {A o : Nat} (hA : A < W.heap.size) (nA : A ≠ t) (h : W.frozen? ⟨A, o, Option.none⟩ = false) : ((w5.setCell ⟨t, 0, Option.none⟩ (.int .i64 m)).setCell ⟨t, 1, Option.none⟩ (.int .i64 M)).frozen? ⟨A, o, Option.none⟩ = false := by
  rw [World.frozen?_setCell, World.frozen?_setCell]
  exact (hb.frozen (p := ⟨A, o, Option.none⟩) hA).trans h
set_option maxRecDepth 100000 in
set_option maxHeartbeats 4000000 in
theorem tableOver0 (g d : GD) (hk : g.ks = [true]) (hk' : d.ks = [true]) (hn : g.n ≤ 1000) (hn' : d.n ≤ 1000) (lo hi : Int) (b0 : B64 lo) (b1 : B64 hi) (hp : Unit → pline g.f g.n d.f d.n = 0) (hs : Unit → pspan lo hi = 0) (w : World) (o : g.ok w) (o' : d.ok w) (A p q : Int) (hA : Unit → plook g.f d.f g.n lo = A)
    (hp1 : (ovHull (fun x => plook g.f d.f g.n x) A (ovF (gd64 g o.b64) ⟨lo, b0⟩ ⟨hi, b1⟩ g.n)).1 = p) (hq1 : (ovHull (fun x => plook g.f d.f g.n x) A (ovF (gd64 g o.b64) ⟨lo, b0⟩ ⟨hi, b1⟩ g.n)).2 = q) :
    Calls Try.prog 97 #[.agg #[.slice g.A g.n g.c, .slice d.A d.n d.c], .agg #[.int .i64 lo, .int .i64 hi]] w fun e w' => e = .returned (.tuple #[.agg #[.int .i64 p, .int .i64 q], errV 0]) ∧ Below w.heap.size w w' := by
  refine (callsIn_wide (n := 3)).1 ?_
  refine callsIn_of_wp_marks Try.func97 rfl trivial ?_ rfl
  simp only [Try.ntmps97, List.size_toArray, List.length_cons, List.length_nil, Nat.reduceAdd, Nat.reduceSub, Array.replicate_succ, Array.replicate_zero, List.push_toArray, List.append_toArray, List.nil_append, List.cons_append]
  refine wpIn_wide.2 ?_
  go_upto_region 6 with (first | (go_at_call 81; ((with_reducible refine (tCheck_is g d hk hk' hn hn' _ (o.below (by (repeat' (first | (with_reducible exact Below.refl _ _) | (with_reducible assumption) | (with_reducible refine Below.alloc ?_ ?_ _) | (with_reducible refine Below.drew ?_) | (with_reducible refine below_drewN ?_ _) | (with_reducible refine Below.setCell ?_ ?_ _) | (with_reducible refine Below.trans ?_ (Below.mono (by assumption) ?_)) | omega | (simp; omega) | (simp; done))))) (o'.below (by (repeat' (first | (with_reducible exact Below.refl _ _) | (with_reducible assumption) | (with_reducible refine Below.alloc ?_ ?_ _) | (with_reducible refine Below.drew ?_) | (with_reducible refine below_drewN ?_ _) | (with_reducible refine Below.setCell ?_ ?_ _) | (with_reducible refine Below.trans ?_ (Below.mono (by assumption) ?_)) | omega | (simp; omega) | (simp; done))))) 0 hp).mono ?_); rintro e w1 ⟨rfl, hb1⟩; have hz1 := hb1.size; (repeat (first | simp only [World.size_alloc] at hz1 | simp only [World.size_drew] at hz1 | simp only [World.size_setCell] at hz1)); have hB1 : Below w.heap.size w w1 := by (repeat' (first | (with_reducible exact Below.refl _ _) | (with_reducible assumption) | (with_reducible refine Below.alloc ?_ ?_ _) | (with_reducible refine Below.drew ?_) | (with_reducible refine below_drewN ?_ _) | (with_reducible refine Below.setCell ?_ ?_ _) | (with_reducible refine Below.trans ?_ (Below.mono (by assumption) ?_)) | omega | (simp; omega) | (simp; done)))); (have hq1_0 := fun o : Nat => hb1.cell (p := ⟨w.heap.size, o, none⟩) (by first | omega | (simp; done) | (simp; omega))); (have hf1_0 := fun o : Nat => hb1.frozen (p := ⟨w.heap.size, o, none⟩) (by first | omega | (simp; done) | (simp; omega))); (have hy1_0 : w.heap.size < w1.heap.size := by omega); (have hq1_1 := fun o : Nat => hb1.cell (p := ⟨w.heap.size + 1, o, none⟩) (by first | omega | (simp; done) | (simp; omega))); (have hf1_1 := fun o : Nat => hb1.frozen (p := ⟨w.heap.size + 1, o, none⟩) (by first | omega | (simp; done) | (simp; omega))); (have hy1_1 : w.heap.size + 1 < w1.heap.size := by omega); (have hq1_2 := fun o : Nat => hb1.cell (p := ⟨w.heap.size + 1 + 1, o, none⟩) (by first | omega | (simp; done) | (simp; omega))); (have hf1_2 := fun o : Nat => hb1.frozen (p := ⟨w.heap.size + 1 + 1, o, none⟩) (by first | omega | (simp; done) | (simp; omega))); (have hy1_2 : w.heap.size + 1 + 1 < w1.heap.size := by omega); clear hb1) | (go_at_call 45; ((with_reducible refine (fCheck_is _ _ 0 _ hs).mono ?_); rintro e w' ⟨rfl, rfl⟩)))
  go_wp2_with (first | (go_at_call 149; ((with_reducible refine (tLook_is g d hk hk' hn hn' _ b0 hp _ (o.below (by (repeat' (first | (with_reducible exact Below.refl _ _) | (with_reducible assumption) | (with_reducible refine Below.alloc ?_ ?_ _) | (with_reducible refine Below.drew ?_) | (with_reducible refine below_drewN ?_ _) | (with_reducible refine Below.setCell ?_ ?_ _) | (with_reducible refine Below.trans ?_ (Below.mono (by assumption) ?_)) | omega | (simp; omega) | (simp; done))))) (o'.below (by (repeat' (first | (with_reducible exact Below.refl _ _) | (with_reducible assumption) | (with_reducible refine Below.alloc ?_ ?_ _) | (with_reducible refine Below.drew ?_) | (with_reducible refine below_drewN ?_ _) | (with_reducible refine Below.setCell ?_ ?_ _) | (with_reducible refine Below.trans ?_ (Below.mono (by assumption) ?_)) | omega | (simp; omega) | (simp; done))))) A hA).mono ?_); rintro e w2 ⟨rfl, hb2⟩; have hz2 := hb2.size; (repeat (first | simp only [World.size_alloc] at hz2 | simp only [World.size_drew] at hz2 | simp only [World.size_setCell] at hz2)); have hB2 : Below w.heap.size w w2 := by (repeat' (first | (with_reducible exact Below.refl _ _) | (with_reducible assumption) | (with_reducible refine Below.alloc ?_ ?_ _) | (with_reducible refine Below.drew ?_) | (with_reducible refine below_drewN ?_ _) | (with_reducible refine Below.setCell ?_ ?_ _) | (with_reducible refine Below.trans ?_ (Below.mono (by assumption) ?_)) | omega | (simp; omega) | (simp; done)))); (have hq2_0 := fun o : Nat => hb2.cell (p := ⟨w.heap.size, o, none⟩) (by first | omega | (simp; done) | (simp; omega))); (have hf2_0 := fun o : Nat => hb2.frozen (p := ⟨w.heap.size, o, none⟩) (by first | omega | (simp; done) | (simp; omega))); (have hy2_0 : w.heap.size < w2.heap.size := by omega); (have hq2_1 := fun o : Nat => hb2.cell (p := ⟨w.heap.size + 1, o, none⟩) (by first | omega | (simp; done) | (simp; omega))); (have hf2_1 := fun o : Nat => hb2.frozen (p := ⟨w.heap.size + 1, o, none⟩) (by first | omega | (simp; done) | (simp; omega))); (have hy2_1 : w.heap.size + 1 < w2.heap.size := by omega); (have hq2_2 := fun o : Nat => hb2.cell (p := ⟨w.heap.size + 1 + 1, o, none⟩) (by first | omega | (simp; done) | (simp; omega))); (have hf2_2 := fun o : Nat => hb2.frozen (p := ⟨w.heap.size + 1 + 1, o, none⟩) (by first | omega | (simp; done) | (simp; omega))); (have hy2_2 : w.heap.size + 1 + 1 < w2.heap.size := by omega); clear hb2) | (go_at_call 160; ((with_reducible refine (turnsC g d lo hi _).mono ?_); rintro e w' ⟨rfl, rfl⟩)))
  refine wp_world (fun ω => Below w.heap.size w ω ∧ w.heap.size < ω.heap.size ∧ (∀ o, ω.frozen? ⟨w.heap.size, o, none⟩ = false) ∧ ω.cell? ⟨w.heap.size, 0, none⟩ = some (.slice g.A g.n g.c) ∧ ω.cell? ⟨w.heap.size, 1, none⟩ = some (.slice d.A d.n d.c) ∧ w.heap.size + 1 + 1 < ω.heap.size ∧ (∀ o, ω.frozen? ⟨w.heap.size + 1 + 1, o, none⟩ = false) ∧ ω.cell? ⟨w.heap.size + 1 + 1, 0, none⟩ = some (.int .i64 0) ∧ ω.cell? ⟨w.heap.size + 1 + 1, 1, none⟩ = some (.int .i64 0) ∧ w2.heap.size < ω.heap.size ∧ (∀ o, ω.frozen? ⟨w2.heap.size, o, none⟩ = false) ∧ ω.cell? ⟨w2.heap.size, 0, none⟩ = some (.int .i64 A) ∧ ω.cell? ⟨w2.heap.size, 1, none⟩ = some (.int .i64 A) ∧ w2.heap.size + 1 < ω.heap.size ∧ (∀ o, ω.frozen? ⟨w2.heap.size + 1, o, none⟩ = false) ∧ ω.cell? ⟨w2.heap.size + 1, 0, none⟩ = some (.slice g.A g.n g.c) ∧ ω.cell? ⟨w2.heap.size + 1, 1, none⟩ = some (.slice d.A d.n d.c) ∧ w2.heap.size + 1 + 1 < ω.heap.size ∧ (∀ o, ω.frozen? ⟨w2.heap.size + 1 + 1, o, none⟩ = false) ∧ ω.cell? ⟨w2.heap.size + 1 + 1, 0, none⟩ = some (.int .i64 lo) ∧ ω.cell? ⟨w2.heap.size + 1 + 1, 1, none⟩ = some (.int .i64 hi)) ⟨by (repeat' (first | (with_reducible exact Below.refl _ _) | (with_reducible assumption) | (with_reducible refine Below.alloc ?_ ?_ _) | (with_reducible refine Below.drew ?_) | (with_reducible refine below_drewN ?_ _) | (with_reducible refine Below.setCell ?_ ?_ _) | (with_reducible refine Below.trans ?_ (Below.mono (by assumption) ?_)) | omega | (simp; omega) | (simp; done))), ?_, ?_, ?_, ?_, ?_, ?_, ?_, ?_, ?_, ?_, ?_, ?_, ?_, ?_, ?_, ?_, ?_, ?_, ?_, ?_⟩ ?_
  · (first | omega | ((repeat (first | simp only [World.size_alloc] | simp only [World.size_drew] | simp only [World.size_setCell])); omega) | (simp; done) | (simp; omega))
  · (intro o; repeat' (first | (with_reducible assumption) | ((with_reducible refine frozen_new ?_); (first | rfl | (simp; done))) | ((with_reducible refine frozen_alloc_keep ?_ ?_); (focus (first | (simp; done) | (simp; omega)))) | (with_reducible refine frozen_drew_keep ?_) | (with_reducible refine frozen_drewN_keep ?_) | (with_reducible refine frozen_set_keep ?_) | (with_reducible refine frozen_below (by assumption) (by first | omega | (simp; done) | (simp; omega)) ?_) | (go_simp; done)))
  · (repeat' (first | (with_reducible assumption) | ((with_reducible refine cell_new ?_ ?_) <;> (first | rfl | (simp; done))) | (with_reducible refine cell_alloc_keep ?_) | (with_reducible refine cell_drew_keep ?_) | (with_reducible refine cell_drewN_keep ?_) | (with_reducible refine cell_set_here ?_) | (with_reducible refine has_set ?_) | (with_reducible refine has_alloc ?_) | (with_reducible refine has_drew ?_) | (with_reducible exact has_of (by with_reducible assumption)) | ((with_reducible refine cell_set_off ?_ ?_); (focus decide)) | ((with_reducible refine cell_set_blk ?_ ?_); (focus (first | (with_reducible assumption) | (simp; done)))) | (with_reducible refine cell_set_ne ?_ (by first | (simp; done) | (simp; omega))) | (with_reducible refine cell_below (by assumption) (by first | omega | (simp; done) | (simp; omega)) ?_) | (go_simp; done)))
  · (repeat' (first | (with_reducible assumption) | ((with_reducible refine cell_new ?_ ?_) <;> (first | rfl | (simp; done))) | (with_reducible refine cell_alloc_keep ?_) | (with_reducible refine cell_drew_keep ?_) | (with_reducible refine cell_drewN_keep ?_) | (with_reducible refine cell_set_here ?_) | (with_reducible refine has_set ?_) | (with_reducible refine has_alloc ?_) | (with_reducible refine has_drew ?_) | (with_reducible exact has_of (by with_reducible assumption)) | ((with_reducible refine cell_set_off ?_ ?_); (focus decide)) | ((with_reducible refine cell_set_blk ?_ ?_); (focus (first | (with_reducible assumption) | (simp; done)))) | (with_reducible refine cell_set_ne ?_ (by first | (simp; done) | (simp; omega))) | (with_reducible refine cell_below (by assumption) (by first | omega | (simp; done) | (simp; omega)) ?_) | (go_simp; done)))
  · (first | omega | ((repeat (first | simp only [World.size_alloc] | simp only [World.size_drew] | simp only [World.size_setCell])); omega) | (simp; done) | (simp; omega))
  · (intro o; repeat' (first | (with_reducible assumption) | ((with_reducible refine frozen_new ?_); (first | rfl | (simp; done))) | ((with_reducible refine frozen_alloc_keep ?_ ?_); (focus (first | (simp; done) | (simp; omega)))) | (with_reducible refine frozen_drew_keep ?_) | (with_reducible refine frozen_drewN_keep ?_) | (with_reducible refine frozen_set_keep ?_) | (with_reducible refine frozen_below (by assumption) (by first | omega | (simp; done) | (simp; omega)) ?_) | (go_simp; done)))
  · (repeat' (first | (with_reducible assumption) | ((with_reducible refine cell_new ?_ ?_) <;> (first | rfl | (simp; done))) | (with_reducible refine cell_alloc_keep ?_) | (with_reducible refine cell_drew_keep ?_) | (with_reducible refine cell_drewN_keep ?_) | (with_reducible refine cell_set_here ?_) | (with_reducible refine has_set ?_) | (with_reducible refine has_alloc ?_) | (with_reducible refine has_drew ?_) | (with_reducible exact has_of (by with_reducible assumption)) | ((with_reducible refine cell_set_off ?_ ?_); (focus decide)) | ((with_reducible refine cell_set_blk ?_ ?_); (focus (first | (with_reducible assumption) | (simp; done)))) | (with_reducible refine cell_set_ne ?_ (by first | (simp; done) | (simp; omega))) | (with_reducible refine cell_below (by assumption) (by first | omega | (simp; done) | (simp; omega)) ?_) | (go_simp; done)))
  · (repeat' (first | (with_reducible assumption) | ((with_reducible refine cell_new ?_ ?_) <;> (first | rfl | (simp; done))) | (with_reducible refine cell_alloc_keep ?_) | (with_reducible refine cell_drew_keep ?_) | (with_reducible refine cell_drewN_keep ?_) | (with_reducible refine cell_set_here ?_) | (with_reducible refine has_set ?_) | (with_reducible refine has_alloc ?_) | (with_reducible refine has_drew ?_) | (with_reducible exact has_of (by with_reducible assumption)) | ((with_reducible refine cell_set_off ?_ ?_); (focus decide)) | ((with_reducible refine cell_set_blk ?_ ?_); (focus (first | (with_reducible assumption) | (simp; done)))) | (with_reducible refine cell_set_ne ?_ (by first | (simp; done) | (simp; omega))) | (with_reducible refine cell_below (by assumption) (by first | omega | (simp; done) | (simp; omega)) ?_) | (go_simp; done)))
  · (first | omega | ((repeat (first | simp only [World.size_alloc] | simp only [World.size_drew] | simp only [World.size_setCell])); omega) | (simp; done) | (simp; omega))
  · (intro o; repeat' (first | (with_reducible assumption) | ((with_reducible refine frozen_new ?_); (first | rfl | (simp; done))) | ((with_reducible refine frozen_alloc_keep ?_ ?_); (focus (first | (simp; done) | (simp; omega)))) | (with_reducible refine frozen_drew_keep ?_) | (with_reducible refine frozen_drewN_keep ?_) | (with_reducible refine frozen_set_keep ?_) | (with_reducible refine frozen_below (by assumption) (by first | omega | (simp; done) | (simp; omega)) ?_) | (go_simp; done)))
  · (repeat' (first | (with_reducible assumption) | ((with_reducible refine cell_new ?_ ?_) <;> (first | rfl | (simp; done))) | (with_reducible refine cell_alloc_keep ?_) | (with_reducible refine cell_drew_keep ?_) | (with_reducible refine cell_drewN_keep ?_) | (with_reducible refine cell_set_here ?_) | (with_reducible refine has_set ?_) | (with_reducible refine has_alloc ?_) | (with_reducible refine has_drew ?_) | (with_reducible exact has_of (by with_reducible assumption)) | ((with_reducible refine cell_set_off ?_ ?_); (focus decide)) | ((with_reducible refine cell_set_blk ?_ ?_); (focus (first | (with_reducible assumption) | (simp; done)))) | (with_reducible refine cell_set_ne ?_ (by first | (simp; done) | (simp; omega))) | (with_reducible refine cell_below (by assumption) (by first | omega | (simp; done) | (simp; omega)) ?_) | (go_simp; done)))
  · (repeat' (first | (with_reducible assumption) | ((with_reducible refine cell_new ?_ ?_) <;> (first | rfl | (simp; done))) | (with_reducible refine cell_alloc_keep ?_) | (with_reducible refine cell_drew_keep ?_) | (with_reducible refine cell_drewN_keep ?_) | (with_reducible refine cell_set_here ?_) | (with_reducible refine has_set ?_) | (with_reducible refine has_alloc ?_) | (with_reducible refine has_drew ?_) | (with_reducible exact has_of (by with_reducible assumption)) | ((with_reducible refine cell_set_off ?_ ?_); (focus decide)) | ((with_reducible refine cell_set_blk ?_ ?_); (focus (first | (with_reducible assumption) | (simp; done)))) | (with_reducible refine cell_set_ne ?_ (by first | (simp; done) | (simp; omega))) | (with_reducible refine cell_below (by assumption) (by first | omega | (simp; done) | (simp; omega)) ?_) | (go_simp; done)))
  · (first | omega | ((repeat (first | simp only [World.size_alloc] | simp only [World.size_drew] | simp only [World.size_setCell])); omega) | (simp; done) | (simp; omega))
  · (intro o; repeat' (first | (with_reducible assumption) | ((with_reducible refine frozen_new ?_); (first | rfl | (simp; done))) | ((with_reducible refine frozen_alloc_keep ?_ ?_); (focus (first | (simp; done) | (simp; omega)))) | (with_reducible refine frozen_drew_keep ?_) | (with_reducible refine frozen_drewN_keep ?_) | (with_reducible refine frozen_set_keep ?_) | (with_reducible refine frozen_below (by assumption) (by first | omega | (simp; done) | (simp; omega)) ?_) | (go_simp; done)))
  · (repeat' (first | (with_reducible assumption) | ((with_reducible refine cell_new ?_ ?_) <;> (first | rfl | (simp; done))) | (with_reducible refine cell_alloc_keep ?_) | (with_reducible refine cell_drew_keep ?_) | (with_reducible refine cell_drewN_keep ?_) | (with_reducible refine cell_set_here ?_) | (with_reducible refine has_set ?_) | (with_reducible refine has_alloc ?_) | (with_reducible refine has_drew ?_) | (with_reducible exact has_of (by with_reducible assumption)) | ((with_reducible refine cell_set_off ?_ ?_); (focus decide)) | ((with_reducible refine cell_set_blk ?_ ?_); (focus (first | (with_reducible assumption) | (simp; done)))) | (with_reducible refine cell_set_ne ?_ (by first | (simp; done) | (simp; omega))) | (with_reducible refine cell_below (by assumption) (by first | omega | (simp; done) | (simp; omega)) ?_) | (go_simp; done)))
  · (repeat' (first | (with_reducible assumption) | ((with_reducible refine cell_new ?_ ?_) <;> (first | rfl | (simp; done))) | (with_reducible refine cell_alloc_keep ?_) | (with_reducible refine cell_drew_keep ?_) | (with_reducible refine cell_drewN_keep ?_) | (with_reducible refine cell_set_here ?_) | (with_reducible refine has_set ?_) | (with_reducible refine has_alloc ?_) | (with_reducible refine has_drew ?_) | (with_reducible exact has_of (by with_reducible assumption)) | ((with_reducible refine cell_set_off ?_ ?_); (focus decide)) | ((with_reducible refine cell_set_blk ?_ ?_); (focus (first | (with_reducible assumption) | (simp; done)))) | (with_reducible refine cell_set_ne ?_ (by first | (simp; done) | (simp; omega))) | (with_reducible refine cell_below (by assumption) (by first | omega | (simp; done) | (simp; omega)) ?_) | (go_simp; done)))
  · (first | omega | ((repeat (first | simp only [World.size_alloc] | simp only [World.size_drew] | simp only [World.size_setCell])); omega) | (simp; done) | (simp; omega))
  · (intro o; repeat' (first | (with_reducible assumption) | ((with_reducible refine frozen_new ?_); (first | rfl | (simp; done))) | ((with_reducible refine frozen_alloc_keep ?_ ?_); (focus (first | (simp; done) | (simp; omega)))) | (with_reducible refine frozen_drew_keep ?_) | (with_reducible refine frozen_drewN_keep ?_) | (with_reducible refine frozen_set_keep ?_) | (with_reducible refine frozen_below (by assumption) (by first | omega | (simp; done) | (simp; omega)) ?_) | (go_simp; done)))
  · (repeat' (first | (with_reducible assumption) | ((with_reducible refine cell_new ?_ ?_) <;> (first | rfl | (simp; done))) | (with_reducible refine cell_alloc_keep ?_) | (with_reducible refine cell_drew_keep ?_) | (with_reducible refine cell_drewN_keep ?_) | (with_reducible refine cell_set_here ?_) | (with_reducible refine has_set ?_) | (with_reducible refine has_alloc ?_) | (with_reducible refine has_drew ?_) | (with_reducible exact has_of (by with_reducible assumption)) | ((with_reducible refine cell_set_off ?_ ?_); (focus decide)) | ((with_reducible refine cell_set_blk ?_ ?_); (focus (first | (with_reducible assumption) | (simp; done)))) | (with_reducible refine cell_set_ne ?_ (by first | (simp; done) | (simp; omega))) | (with_reducible refine cell_below (by assumption) (by first | omega | (simp; done) | (simp; omega)) ?_) | (go_simp; done)))
  · (repeat' (first | (with_reducible assumption) | ((with_reducible refine cell_new ?_ ?_) <;> (first | rfl | (simp; done))) | (with_reducible refine cell_alloc_keep ?_) | (with_reducible refine cell_drew_keep ?_) | (with_reducible refine cell_drewN_keep ?_) | (with_reducible refine cell_set_here ?_) | (with_reducible refine has_set ?_) | (with_reducible refine has_alloc ?_) | (with_reducible refine has_drew ?_) | (with_reducible exact has_of (by with_reducible assumption)) | ((with_reducible refine cell_set_off ?_ ?_); (focus decide)) | ((with_reducible refine cell_set_blk ?_ ?_); (focus (first | (with_reducible assumption) | (simp; done)))) | (with_reducible refine cell_set_ne ?_ (by first | (simp; done) | (simp; omega))) | (with_reducible refine cell_below (by assumption) (by first | omega | (simp; done) | (simp; omega)) ?_) | (go_simp; done)))
  rintro w3 ⟨hB3, hy3_0, hf3_0, hc3_0_0, hc3_0_1, hy3_2, hf3_2, hc3_2_0, hc3_2_1, hy3_2_0, hf3_2_0, hc3_2_0_0, hc3_2_0_1, hy3_2_1, hf3_2_1, hc3_2_1_0, hc3_2_1_1, hy3_2_2, hf3_2_2, hc3_2_2_0, hc3_2_2_1⟩
  have hz := hy2_2
  obtain ⟨t, ht⟩ : ∃ t, w2.heap.size = t := ⟨_, rfl⟩
  rw [ht] at hz hy3_2_0 hf3_2_0 hc3_2_0_0 hc3_2_0_1 hy3_2_1 hf3_2_1 hc3_2_1_0 hc3_2_1_1 hy3_2_2 hf3_2_2 hc3_2_2_0 hc3_2_2_1 ⊢
  clear hf3_2_1 hf3_2_2
  have oW : ∀ W, Below w.heap.size w W → g.ok W ∧ d.ok W := fun W hW => ⟨o.below hW, o'.below hW⟩
  refine (wpIn_wide (n := 4)).1 ?_
  refine wpIn_rangeFunc_ownF (F := Fence.wide) (n := 4) (w0 := w3) rfl (by omega) (gf := 173) (lb := #[.pointer (some ⟨t + 1 + 1, 0, Option.none⟩), .pointer (some ⟨t + 1, 0, Option.none⟩)]) rfl trivial (enters_of Try.func173 (by kernel_rfl) rfl)
    (encs := fun x : N64 => #[.int .i64 x.1]) (Kp := KpO w.heap.size (t + 1 + 1) (t + 1)) (S := fun ys => ys = ovF (gd64 g o.b64) ⟨lo, b0⟩ ⟨hi, b1⟩ g.n) (Sp := fun _ => True) (N := g.n + 2) ?seq (fun h k => h.trans k) (fun W l o o' hl h h1 h2 => KpO.put (w := w3) (by omega) (by omega) (by omega) W l o o' hl h h1 h2) (Below.refl _ _) (fun _ => rfl)
    (fun pre W => (W.cell? ⟨w.heap.size, 0, Option.none⟩ = some (.slice g.A g.n g.c) ∧ W.cell? ⟨w.heap.size, 1, Option.none⟩ = some (.slice d.A d.n d.c) ∧ W.cell? ⟨w.heap.size + 1 + 1, 0, Option.none⟩ = some (.int .i64 0) ∧ W.cell? ⟨w.heap.size + 1 + 1, 1, Option.none⟩ = some (.int .i64 0) ∧
      W.frozen? ⟨w.heap.size + 1 + 1, 0, Option.none⟩ = false ∧ W.frozen? ⟨w.heap.size + 1 + 1, 1, Option.none⟩ = false ∧
      W.cell? ⟨t, 0, Option.none⟩ = some (.int .i64 (ovHull (fun x => plook g.f d.f g.n x) A pre).1) ∧ W.cell? ⟨t, 1, Option.none⟩ = some (.int .i64 (ovHull (fun x => plook g.f d.f g.n x) A pre).2) ∧ W.frozen? ⟨t, 0, Option.none⟩ = false ∧ W.frozen? ⟨t, 1, Option.none⟩ = false) ∧ Below w.heap.size w W ∧ w3.heap.size ≤ W.heap.size)
    (fun _ _ _ => False) ?own (fun _ _ _ _ _ hs _ _ => hs) ⟨⟨hc3_0_0, hc3_0_1, hc3_2_0, hc3_2_1, hf3_2 0, hf3_2 1, hc3_2_0_0, hc3_2_0_1, hf3_2_0 0, hf3_2_0 1⟩, hB3, Nat.le_refl _⟩
    (fun x => { tmps := #[.agg #[.slice g.A g.n g.c, .slice d.A d.n d.c], .agg #[.int .i64 lo, .int .i64 hi], .pointer (some ⟨w.heap.size, 0, Option.none⟩), .pointer (some ⟨w.heap.size + 1, 0, Option.none⟩), .pointer (some ⟨w.heap.size + 1 + 1, 0, Option.none⟩), .nilIface, errV 0, .int .i64 A, .pointer (some ⟨t, 0, Option.none⟩), .int .i64 x.1,
      .agg #[.slice g.A g.n g.c, .slice d.A d.n d.c], errV 0, errV 0, .bool true, .agg #[.int .i64 lo, .int .i64 hi], errV 0, errV 0, .bool false, undef, undef, .agg #[.slice g.A g.n g.c, .slice d.A d.n d.c], .pointer (some ⟨w.heap.size + 1, 0, Option.none⟩), .int .i64 lo, .int .i64 A, .int .i64 A, .int .i64 A, .agg #[.int .i64 A, .int .i64 A],
      .agg #[.slice g.A g.n g.c, .slice d.A d.n d.c], .agg #[.int .i64 lo, .int .i64 hi], .func (.func 173) #[] #[.pointer (some ⟨t + 1 + 1, 0, Option.none⟩), .pointer (some ⟨t + 1, 0, Option.none⟩)], .int .i64 x.1, undef, undef, undef, undef, undef, undef, undef], defers := [] }) ?assign ?body ?done ?stop
  case seq =>
    intro l J Jx W hW hJ hJx hY h0
    have hBW := hB3.trans (hW.mono (by omega))
    have hsW := hW.size
    refine turns1_in l (t + 1 + 1) (t + 1) w.heap.size W.heap.size g (gd64 g o.b64) (fun _ => rfl) hn ⟨lo, b0⟩ ⟨hi, b1⟩ J Jx hY hJ W (by omega) (by omega) (by omega) ((hW.cell (p := ⟨t + 1 + 1, 0, Option.none⟩) (by show t + 1 + 1 < _; omega)).trans hc3_2_2_0) ((hW.cell (p := ⟨t + 1 + 1, 1, Option.none⟩) (by show t + 1 + 1 < _; omega)).trans hc3_2_2_1) ((hW.cell (p := ⟨t + 1, 0, Option.none⟩) (by show t + 1 < _; omega)).trans hc3_2_1_0) ?_ h0
    intro i hi
    obtain ⟨bl, off, e1, e2, e3⟩ := o.cell i 0 hi (by rw [hk]; decide)
    rw [hk] at e3
    have e3 : w.cell? ⟨bl, off + i, Option.none⟩ = some (.int .i64 (g.f i)) := by
      have e4 : g.val i 0 = .int .i64 (g.f i) := by unfold GD.val; rw [hk]; rfl
      rw [e4] at e3
      simpa using e3
    exact ⟨bl, off, e1, e2, (hBW.cell (p := ⟨bl, off + i, Option.none⟩) e2).trans e3⟩
  case own =>
    refine OwnFrom.and (Own.from (fun s A B row hs hg hr => ?_) _) (OwnFrom.and (ownFrom_below (Nat.le_refl _) (by omega)) (fun s W W' row hs hg hr => Nat.le_trans hs hg.size))
    obtain ⟨q1, q2, q3, q4, q5, q6, q7, q8, q9, q10⟩ := hs
    exact ⟨cell_kept q1 hg hr, cell_kept q2 hg hr, cell_kept q3 hg hr, cell_kept q4 hg hr, (frozen_kept q3 hg hr).trans q5, (frozen_kept q4 hg hr).trans q6, cell_kept q7 hg hr, cell_kept q8 hg hr, (frozen_kept q7 hg hr).trans q9, (frozen_kept q8 hg hr).trans q10⟩
  case assign =>
    intro l x W K hK
    gi_wp2
    exact hK
  case body =>
    rintro l pre x W ⟨⟨q1, q2, q3, q4, q5, q6, q7, q8, q9, q10⟩, hB, hle⟩ _
    have hmx : (Try.prog).follows .mixedOrders = true := by kernel_rfl
    have hd : 1 ≤ 4 - 1 - 1 := by omega
    obtain ⟨L, hL⟩ : ∃ L, Unit → plook g.f d.f g.n x.1 = L := ⟨_, fun _ => rfl⟩
    have y1 : t < W.heap.size := by omega
    have y2 : w.heap.size < W.heap.size := by omega
    have y3 : w.heap.size + 1 + 1 < W.heap.size := by omega
    obtain ⟨P1, hP1⟩ : ∃ z, (ovHull (fun x => plook g.f d.f g.n x) A pre).1 = z := ⟨_, rfl⟩
    obtain ⟨P2, hP2⟩ : ∃ z, (ovHull (fun x => plook g.f d.f g.n x) A pre).2 = z := ⟨_, rfl⟩
    rw [hP1] at q7
    rw [hP2] at q8
    gi_wp2
    have hP : Pair t P1 P2 W := ⟨y1, q7, q8, q9, q10⟩
    gi_region_with_o (first
      | (refine ⟨trivial, ?_⟩; gi_at_call 149; refine (look_in l _ g d hk hk' hn hn' x hp L hL _ (oW _ (by (repeat' (first | (with_reducible exact Below.refl _ _) | (with_reducible assumption) | (with_reducible refine Below.alloc ?_ ?_ _) | (with_reducible refine Below.drew ?_) | (with_reducible refine below_drewN ?_ _) | (with_reducible refine Below.setCell ?_ ?_ _) | (with_reducible refine Below.trans ?_ (Below.mono (by assumption) ?_)) | omega | (simp; omega) | (simp; done))))) hP.drew).mono ?_; rintro e w4 ⟨rfl, hb4, ⟨y4, p7, p8, p9, p10⟩⟩)
      | (refine ⟨trivial, ?_⟩; gi_at_call 161; refine (hull_in l _ _ _ L _ _ _ (by simp) (by simp) ((Pair.mk y4 p7 p8 p9 p10).alloc _)).mono ?_; rintro e w5 ⟨rfl, hb5, r7, r8, r9, r10⟩))
    all_goals gi_wp2
    all_goals (try go_bits)
    all_goals
      have B4 : Below W.heap.size W w4 := ((Below.refl _ W).drew).trans hb4
      have B5 : Below W.heap.size W w5 := (B4.alloc B4.size _).trans (hb5.mono (by rw [World.size_alloc]; exact Nat.le_succ_of_le B4.size))
      have hR := round_end (n := w.heap.size) (t := t) (A := t + 1 + 1) (B := t + 1) (m := min P1 L) (M := max P2 L) B5 (by omega) y1 (by omega) (by omega) (by omega) (by omega)
      refine ⟨hR.1, hR.2, ⟨other_cell (n := 0) B5 y2 (by omega) q1, other_cell (n := 0) B5 y2 (by omega) q2, other_cell (n := 0) B5 y3 (by omega) q3, other_cell (n := 0) B5 y3 (by omega) q4, other_frozen B5 y3 (by omega) q5, other_frozen B5 y3 (by omega) q6, ?_, ?_, ?_, ?_⟩, hB.trans hR.2.b, ?_⟩
      · rw [ovHull_snoc, hP1, hL ()]
        exact cell_set_off (by decide) (cell_set_here (has_of r7))
      · rw [ovHull_snoc, hP2, hL ()]
        exact cell_set_here (has_set (has_of r8))
      · rw [World.frozen?_setCell, World.frozen?_setCell]; exact r9
      · rw [World.frozen?_setCell, World.frozen?_setCell]; exact r10
      · have := hR.2.b.size; omega
  case done =>
    rintro D ys W hD rfl ⟨⟨q1, q2, q3, q4, q5, q6, q7, q8, q9, q10⟩, hB, hle⟩ hK
    rw [hp1] at q7
    rw [hq1] at q8
    have ne : ¬ w.heap.size + 1 + 1 = t := by omega
    go_wp2
    have hK' := ((KeepsOthers.setCell W ⟨w.heap.size + 1 + 1, 0, Option.none⟩ (.int .i64 p)).trans (KeepsOthers.setCell _ ⟨w.heap.size + 1 + 1, 1, Option.none⟩ (.int .i64 q))).same D _ hK rfl
    refine ⟨by simp, .inl ⟨_, _, rfl, run_takeDeferred hK', ?_⟩⟩
    have hc5 := cell_kept (cell_set_off (i := 1) (j := 0) (u := .int .i64 q) (by decide) (cell_set_here (u := .int .i64 p) (has_of q3))) (grownBy_putObj' _ D (.deferred Option.none)) (fun r e => by cases e; exact ⟨_, hK', rfl⟩)
    have hc6 := cell_kept (cell_set_here (u := .int .i64 q) (has_set (a := ⟨w.heap.size + 1 + 1, 1, Option.none⟩) (p := ⟨w.heap.size + 1 + 1, 0, Option.none⟩) (u := .int .i64 p) (has_of q4))) (grownBy_putObj' _ D (.deferred Option.none)) (fun r e => by cases e; exact ⟨_, hK', rfl⟩)
    refine ⟨.tuple #[.agg #[.int .i64 p, .int .i64 q], errV 0], ?_, rfl, ((hB.setCell (p := ⟨w.heap.size + 1 + 1, 0, Option.none⟩) (by show _ ≤ w.heap.size + 1 + 1; omega) _).setCell (p := ⟨w.heap.size + 1 + 1, 1, Option.none⟩) (by show _ ≤ w.heap.size + 1 + 1; omega) _).trans (belowK_b (w := w) (Nat.le_refl _) _ D _ _ (by omega) hK' rfl rfl)⟩
    simp [results, Try.results97, go_sem, hc5, hc6]
    rfl
  case stop =>
    rintro D c pre W _ _ h _
    exact h.elim
set_option maxHeartbeats 1000000 in
theorem tableOver_e1 (g d : GD) (hk : g.ks = [true]) (hk' : d.ks = [true]) (hn : g.n ≤ 1000) (hn' : d.n ≤ 1000) (lo hi k : Int) (hp : Unit → pline g.f g.n d.f d.n = k) (hz : k ≠ 0) (w : World) (o : g.ok w) (o' : d.ok w) :
    Calls Try.prog 97 #[.agg #[.slice g.A g.n g.c, .slice d.A d.n d.c], .agg #[.int .i64 lo, .int .i64 hi]] w fun e w' => e = .returned (.tuple #[.agg #[.int .i64 0, .int .i64 0], errV k]) ∧ Below w.heap.size w w' := by
  have hz' : (k != 0) = true := by simpa using hz
  have hz2 : (k == 0) = false := by simpa using hz
  clear hz
  go_enter Try.func97, Try.ntmps97
  go_wp2_with (first | (go_at_call 81; ((with_reducible refine (tCheck_is g d hk hk' hn hn' _ (o.below (by (repeat' (first | (with_reducible exact Below.refl _ _) | (with_reducible assumption) | (with_reducible refine Below.alloc ?_ ?_ _) | (with_reducible refine Below.drew ?_) | (with_reducible refine below_drewN ?_ _) | (with_reducible refine Below.setCell ?_ ?_ _) | (with_reducible refine Below.trans ?_ (Below.mono (by assumption) ?_)) | omega | (simp; omega) | (simp; done))))) (o'.below (by (repeat' (first | (with_reducible exact Below.refl _ _) | (with_reducible assumption) | (with_reducible refine Below.alloc ?_ ?_ _) | (with_reducible refine Below.drew ?_) | (with_reducible refine below_drewN ?_ _) | (with_reducible refine Below.setCell ?_ ?_ _) | (with_reducible refine Below.trans ?_ (Below.mono (by assumption) ?_)) | omega | (simp; omega) | (simp; done))))) k hp).mono ?_); rintro e w1 ⟨rfl, hb1⟩; have hz1 := hb1.size; (repeat (first | simp only [World.size_alloc] at hz1 | simp only [World.size_drew] at hz1 | simp only [World.size_setCell] at hz1)); have hB1 : Below w.heap.size w w1 := by (repeat' (first | (with_reducible exact Below.refl _ _) | (with_reducible assumption) | (with_reducible refine Below.alloc ?_ ?_ _) | (with_reducible refine Below.drew ?_) | (with_reducible refine below_drewN ?_ _) | (with_reducible refine Below.setCell ?_ ?_ _) | (with_reducible refine Below.trans ?_ (Below.mono (by assumption) ?_)) | omega | (simp; omega) | (simp; done)))); (have hq1_0 := fun o : Nat => hb1.cell (p := ⟨w.heap.size, o, none⟩) (by first | omega | (simp; done) | (simp; omega))); (have hf1_0 := fun o : Nat => hb1.frozen (p := ⟨w.heap.size, o, none⟩) (by first | omega | (simp; done) | (simp; omega))); (have hy1_0 : w.heap.size < w1.heap.size := by omega); (have hq1_1 := fun o : Nat => hb1.cell (p := ⟨w.heap.size + 1, o, none⟩) (by first | omega | (simp; done) | (simp; omega))); (have hf1_1 := fun o : Nat => hb1.frozen (p := ⟨w.heap.size + 1, o, none⟩) (by first | omega | (simp; done) | (simp; omega))); (have hy1_1 : w.heap.size + 1 < w1.heap.size := by omega); (have hq1_2 := fun o : Nat => hb1.cell (p := ⟨w.heap.size + 1 + 1, o, none⟩) (by first | omega | (simp; done) | (simp; omega))); (have hf1_2 := fun o : Nat => hb1.frozen (p := ⟨w.heap.size + 1 + 1, o, none⟩) (by first | omega | (simp; done) | (simp; omega))); (have hy1_2 : w.heap.size + 1 + 1 < w1.heap.size := by omega); clear hb1))
  have c0 : w1.cell? ⟨w.heap.size + 1 + 1, 0, Option.none⟩ = some (.int .i64 0) := (hq1_2 0).trans (by go_simp)
  have c1 : w1.cell? ⟨w.heap.size + 1 + 1, 1, Option.none⟩ = some (.int .i64 0) := (hq1_2 1).trans (by go_simp)
  have h2 := cell_set_off (i := 1) (j := 0) (u := .int .i64 0) (by decide) (cell_set_here (u := .int .i64 0) (has_of c0))
  have h3 := cell_set_here (u := .int .i64 0) (has_set (a := ⟨w.heap.size + 1 + 1, 1, Option.none⟩) (p := ⟨w.heap.size + 1 + 1, 0, Option.none⟩) (u := .int .i64 0) (has_of c1))
  refine bodyPost_ret (v := .tuple #[.agg #[.int .i64 0, .int .i64 0], errV k]) ?_ rfl ⟨rfl, by (repeat' (first | (with_reducible exact Below.refl _ _) | (with_reducible assumption) | (with_reducible refine Below.alloc ?_ ?_ _) | (with_reducible refine Below.drew ?_) | (with_reducible refine below_drewN ?_ _) | (with_reducible refine Below.setCell ?_ ?_ _) | (with_reducible refine Below.trans ?_ (Below.mono (by assumption) ?_)) | omega | (simp; omega) | (simp; done)))⟩
  simp [results, Try.results97, go_sem, h2, h3]
set_option maxHeartbeats 1000000 in
theorem tableOver_e2 (g d : GD) (hk : g.ks = [true]) (hk' : d.ks = [true]) (hn : g.n ≤ 1000) (hn' : d.n ≤ 1000) (lo hi k : Int) (hp : Unit → pline g.f g.n d.f d.n = 0) (hs : Unit → pspan lo hi = k) (hz : k ≠ 0) (w : World) (o : g.ok w) (o' : d.ok w) :
    Calls Try.prog 97 #[.agg #[.slice g.A g.n g.c, .slice d.A d.n d.c], .agg #[.int .i64 lo, .int .i64 hi]] w fun e w' => e = .returned (.tuple #[.agg #[.int .i64 0, .int .i64 0], errV k]) ∧ Below w.heap.size w w' := by
  have hz' : (k != 0) = true := by simpa using hz
  clear hz
  go_enter Try.func97, Try.ntmps97
  go_wp2_with (first | (go_at_call 81; ((with_reducible refine (tCheck_is g d hk hk' hn hn' _ (o.below (by (repeat' (first | (with_reducible exact Below.refl _ _) | (with_reducible assumption) | (with_reducible refine Below.alloc ?_ ?_ _) | (with_reducible refine Below.drew ?_) | (with_reducible refine below_drewN ?_ _) | (with_reducible refine Below.setCell ?_ ?_ _) | (with_reducible refine Below.trans ?_ (Below.mono (by assumption) ?_)) | omega | (simp; omega) | (simp; done))))) (o'.below (by (repeat' (first | (with_reducible exact Below.refl _ _) | (with_reducible assumption) | (with_reducible refine Below.alloc ?_ ?_ _) | (with_reducible refine Below.drew ?_) | (with_reducible refine below_drewN ?_ _) | (with_reducible refine Below.setCell ?_ ?_ _) | (with_reducible refine Below.trans ?_ (Below.mono (by assumption) ?_)) | omega | (simp; omega) | (simp; done))))) 0 hp).mono ?_); rintro e w1 ⟨rfl, hb1⟩; have hz1 := hb1.size; (repeat (first | simp only [World.size_alloc] at hz1 | simp only [World.size_drew] at hz1 | simp only [World.size_setCell] at hz1)); have hB1 : Below w.heap.size w w1 := by (repeat' (first | (with_reducible exact Below.refl _ _) | (with_reducible assumption) | (with_reducible refine Below.alloc ?_ ?_ _) | (with_reducible refine Below.drew ?_) | (with_reducible refine below_drewN ?_ _) | (with_reducible refine Below.setCell ?_ ?_ _) | (with_reducible refine Below.trans ?_ (Below.mono (by assumption) ?_)) | omega | (simp; omega) | (simp; done)))); (have hq1_0 := fun o : Nat => hb1.cell (p := ⟨w.heap.size, o, none⟩) (by first | omega | (simp; done) | (simp; omega))); (have hf1_0 := fun o : Nat => hb1.frozen (p := ⟨w.heap.size, o, none⟩) (by first | omega | (simp; done) | (simp; omega))); (have hy1_0 : w.heap.size < w1.heap.size := by omega); (have hq1_1 := fun o : Nat => hb1.cell (p := ⟨w.heap.size + 1, o, none⟩) (by first | omega | (simp; done) | (simp; omega))); (have hf1_1 := fun o : Nat => hb1.frozen (p := ⟨w.heap.size + 1, o, none⟩) (by first | omega | (simp; done) | (simp; omega))); (have hy1_1 : w.heap.size + 1 < w1.heap.size := by omega); (have hq1_2 := fun o : Nat => hb1.cell (p := ⟨w.heap.size + 1 + 1, o, none⟩) (by first | omega | (simp; done) | (simp; omega))); (have hf1_2 := fun o : Nat => hb1.frozen (p := ⟨w.heap.size + 1 + 1, o, none⟩) (by first | omega | (simp; done) | (simp; omega))); (have hy1_2 : w.heap.size + 1 + 1 < w1.heap.size := by omega); clear hb1) | (go_at_call 45; ((with_reducible refine (fCheck_is _ _ k _ hs).mono ?_); rintro e w' ⟨rfl, rfl⟩)))
  have c0 : w1.cell? ⟨w.heap.size + 1 + 1, 0, Option.none⟩ = some (.int .i64 0) := (hq1_2 0).trans (by go_simp)
  have c1 : w1.cell? ⟨w.heap.size + 1 + 1, 1, Option.none⟩ = some (.int .i64 0) := (hq1_2 1).trans (by go_simp)
  have h2 := cell_set_off (i := 1) (j := 0) (u := .int .i64 0) (by decide) (cell_set_here (u := .int .i64 0) (has_of c0))
  have h3 := cell_set_here (u := .int .i64 0) (has_set (a := ⟨w.heap.size + 1 + 1, 1, Option.none⟩) (p := ⟨w.heap.size + 1 + 1, 0, Option.none⟩) (u := .int .i64 0) (has_of c1))
  have h4 := cell_alloc_keep (o := .cells #[.int .i64 lo, .int .i64 hi] 41) h2
  have h5 := cell_alloc_keep (o := .cells #[.int .i64 lo, .int .i64 hi] 41) h3
  refine bodyPost_ret (v := .tuple #[.agg #[.int .i64 0, .int .i64 0], errV k]) ?_ rfl ⟨rfl, by (repeat' (first | (with_reducible exact Below.refl _ _) | (with_reducible assumption) | (with_reducible refine Below.alloc ?_ ?_ _) | (with_reducible refine Below.drew ?_) | (with_reducible refine below_drewN ?_ _) | (with_reducible refine Below.setCell ?_ ?_ _) | (with_reducible refine Below.trans ?_ (Below.mono (by assumption) ?_)) | omega | (simp; omega) | (simp; done)))⟩
  simp [results, Try.results97, go_sem, h4, h5]
end Go.Proofs.Ytdfpenjhpemokaa.Sx
