/-
  Slices of ints, their cells; own slices read as such.
-/
import Derived.Test.YtdfpenjhpemokaaKit
import Derived.Laws.AppendOwn
set_option linter.unusedVariables false
set_option linter.unusedSimpArgs false
namespace Go.Proofs.Ytdfpenjhpemokaa
open Go.RowKit

/-- The first n numbers of a slice. -/
def IntRow (w : World) (A : Option Addr) (n : Nat) (f : Nat → Int) : Prop :=
  ∀ k, k < n → ∃ b off, A = some ⟨b, off, none⟩ ∧ b < w.heap.size ∧ w.cell? ⟨b, off + k, none⟩ = some (.int .i64 (f k))

theorem IntRow.below {w w' : World} {A : Option Addr} {n : Nat} {f : Nat → Int} (h : IntRow w A n f) (hb : Below w.heap.size w w') : IntRow w' A n f := fun k hk => by
  obtain ⟨b, off, h1, h2, h3⟩ := h k hk
  exact ⟨b, off, h1, Nat.lt_of_lt_of_le h2 hb.size, (hb.cell (p := ⟨b, _, none⟩) h2).trans h3⟩
theorem IntRow.nil (w : World) (A : Option Addr) (f : Nat → Int) : IntRow w A 0 f := fun _ h => absurd h (Nat.not_lt_zero _)
theorem IntRow.congr {w : World} {A : Option Addr} {n : Nat} {f g : Nat → Int} (h : IntRow w A n f) (e : ∀ k, k < n → f k = g k) : IntRow w A n g := fun k hk => by
  obtain ⟨b, off, h1, h2, h3⟩ := h k hk
  exact ⟨b, off, h1, h2, by rw [← e k hk]; exact h3⟩

/-- An own slice of numbers, as such. -/
theorem ownsRow_ints {w : World} {base : Nat} {e : TypeId} {v : Value} {n : Nat} {l : List Int} (h : w.ownsRow base e 1 v n (l.map (Value.int .i64))) :
    ∃ A c, v = .slice A n c ∧ n ≤ c ∧ c ≤ maxLen ∧ l.length = n ∧ (∀ b off s, A = some ⟨b, off, s⟩ → base ≤ b ∧ s = none ∧ off = 0) ∧ IntRow w A n (fun k => l[k]?.getD 0) := by
  have hl : l.length = n := by simpa using h.1
  have hh := h
  rcases h.2 with ⟨rfl, rfl⟩ | ⟨g, cap, cur, rfl, hb, hg, hnc, hcm, _, _⟩
  · exact ⟨none, 0, rfl, Nat.le_refl _, Nat.zero_le _, hl, (fun _ _ _ h => by cases h), IntRow.nil _ _ _⟩
  · refine ⟨_, cap, rfl, hnc, hcm, hl, (fun _ _ _ h => by cases h; exact ⟨hb, rfl, rfl⟩), fun k hk => ⟨g, 0, rfl, (Array.getElem?_eq_some_iff.1 hg).1, ?_⟩⟩
    have hc := hh.cells (g := g) rfl k (.int .i64 (l[k]?.getD 0)) (by rw [List.getElem?_map, List.getElem?_eq_getElem (by omega)]; rfl)
    have hadd : (⟨g, 0, none⟩ : Addr).add k = ⟨g, 0 + k, none⟩ := by unfold Addr.add; split <;> simp_all
    rwa [hadd] at hc

theorem ownsRow_below {w w' : World} {base : Nat} {e : TypeId} {size : Nat} {v : Value} {n : Nat} {xs : List Value} (h : w.ownsRow base e size v n xs) {B : Nat} (hb : Below B w w') (hB : w.heap.size ≤ B) : w'.ownsRow base e size v n xs := by
  obtain ⟨h1, h2⟩ := h
  refine ⟨h1, ?_⟩
  rcases h2 with h2 | ⟨g, cap, cur, hv, hg, hh, r⟩
  · exact .inl h2
  · exact .inr ⟨g, cap, cur, hv, hg, by rw [hb.block g (by have := (Array.getElem?_eq_some_iff.1 hh).1; omega)]; exact hh, r⟩
theorem ownsRow_base {w : World} {base base' : Nat} {e : TypeId} {size : Nat} {v : Value} {n : Nat} {xs : List Value} (h : w.ownsRow base e size v n xs) (hb : base' ≤ base) : w.ownsRow base' e size v n xs := by
  obtain ⟨h1, h2⟩ := h
  refine ⟨h1, ?_⟩
  rcases h2 with h2 | ⟨g, cap, cur, hv, hg, r⟩
  · exact .inl h2
  · exact .inr ⟨g, cap, cur, hv, Nat.le_trans hb hg, r⟩
theorem intInfo : (Try.prog.info? 3).map (fun i => (i.zero, i.size, i.bytes)) = some (some (.int .i64 0), 1, 8) := by kernel_rfl
/-- What lies below an append's own rows stays. -/
theorem grown_cell {w w' : World} {base : Nat} {e : TypeId} {size : Nat} {v : Value} {n : Nat} {xs : List Value} (ho : w.ownsRow base e size v n xs) (hg : w.grownBy w' v.ownBlock) {b i : Nat} {s : Option Nat} {u : Value} (hb : b < base) (h : w.cell? ⟨b, i, s⟩ = some u) : w'.cell? ⟨b, i, s⟩ = some u :=
  hg.cell h (fun e => by have := (ho.lt b e.symm).1; omega)
/-! One block of the call's own is written, the rest stays: grownBy. -/
theorem grown_refl (w : World) (r : Option Nat) : w.grownBy w r := ⟨rfl, rfl, rfl, Nat.le_refl _, fun _ _ _ => rfl⟩
theorem grown_trans {a b c : World} {r : Option Nat} (h : a.grownBy b r) (k : b.grownBy c r) : a.grownBy c r :=
  ⟨k.os.trans h.os, k.tape.trans h.tape, k.output.trans h.output, Nat.le_trans h.size k.size, fun i hi hr => (k.block i (Nat.lt_of_lt_of_le hi h.size) hr).trans (h.block i hi hr)⟩
theorem grown_set {a w : World} {b : Nat} (h : a.grownBy w (some b)) {p : Addr} (hp : p.block = b) (u : Value) : a.grownBy (w.setCell p u) (some b) :=
  grown_trans h ⟨rfl, rfl, rfl, by simp [World.setCell], fun k _ hr => Below.heap_setCell _ _ _ _ (fun e => hr (by rw [e, hp]))⟩
theorem grown_alloc {a w : World} {r : Option Nat} (h : a.grownBy w r) (o : Obj) : a.grownBy (w.alloc o) r :=
  grown_trans h ⟨rfl, rfl, rfl, by simp, fun k hk _ => Below.heap_alloc _ _ _ hk⟩
theorem grown_drew {a w : World} {r : Option Nat} (h : a.grownBy w r) : a.grownBy w.drew r := ⟨h.os, h.tape, h.output, h.size, h.block⟩
theorem grown_drewN {a w : World} {r : Option Nat} (h : a.grownBy w r) (n : Nat) : a.grownBy (w.drewN n) r := ⟨h.os, h.tape, h.output, h.size, h.block⟩
theorem grown_below {a w w' : World} {r : Option Nat} (h : a.grownBy w r) (hb : Below w.heap.size w w') : a.grownBy w' r :=
  grown_trans h ⟨hb.os, hb.tape, hb.output, hb.size, fun k hk _ => hb.block k hk⟩
theorem grown_keep {a w : World} {b : Nat} (h : a.grownBy w (some b)) {c i : Nat} {v : Value} (hc : a.cell? ⟨c, i, none⟩ = some v) (hne : c ≠ b) : w.cell? ⟨c, i, none⟩ = some v :=
  h.cell hc (fun e => hne (by simpa using e))
theorem grown_froz {a w : World} {b : Nat} (h : a.grownBy w (some b)) {c : Nat} (hc : c < a.heap.size) (hne : c ≠ b) (o : Nat) : w.frozen? ⟨c, o, none⟩ = a.frozen? ⟨c, o, none⟩ :=
  World.frozen?_of_block (w := a) (h.block c hc (fun e => hne (by simpa using e)))
theorem grown_is_below {a w : World} {B b : Nat} (h : a.grownBy w (some b)) (hB : B ≤ b) (hs : B ≤ a.heap.size) : Below B a w :=
  ⟨h.os, h.tape, h.output, h.size, fun k hk => h.block k (by omega) (fun e => by have : k = b := by simpa using e
                                                                                 omega)⟩
theorem new_one {w : World} {v : Value} {t : TypeId} {b : Nat} (hb : b = w.heap.size) : ∀ (j : Nat) (u : Value), [v][j]? = some u → (w.alloc (.cells #[v] t)).cell? ((⟨b, 0, none⟩ : Addr).add j) = some u := by
  intro j u h
  match j, h with
  | 0, h =>
    simp at h
    subst h
    exact cell_new hb rfl
theorem one_ints (y : Int) : ∀ u ∈ [Value.int .i64 y], u.oneCell' = true := by
  intro u hu
  simp at hu
  subst hu
  rfl
/-- An append's rows lie from base on: what is below stays. -/
theorem Below.app {B : Nat} {a w w' : World} {v : Value} {base : Nat} {e : TypeId} {size n : Nat} {xs : List Value} (h : Below B a w) (hg : w.grownBy w' v.ownBlock) (ho : w.ownsRow base e size v n xs) (hB : B ≤ base) (hs : B ≤ w.heap.size) : Below B a w' :=
  h.grown hg hs (fun k hk => Nat.le_trans hB (ho.lt k hk).1)

/-! min and max of two, named. -/
theorem run_min_is (a b m : Int) (h : m = min a b) (ts : Array TypeId) (t : TypeId) (w : World) : (Builtin.min_ ts t #[.int .i64 a, .int .i64 b]).run Try.prog w = .ok (.int .i64 m) w := by
  rw [run_min_int2, h]; congr 2; split <;> omega
theorem run_max_is (a b m : Int) (h : m = max a b) (ts : Array TypeId) (t : TypeId) (w : World) : (Builtin.max_ ts t #[.int .i64 a, .int .i64 b]).run Try.prog w = .ok (.int .i64 m) w := by
  rw [run_max_int2, h]; congr 2; split <;> omega
end Go.Proofs.Ytdfpenjhpemokaa
