/-
  Slices of ints, their cells; own slices read as such.
-/
import Derived.Test.YtdfpenjhpemokaaKit
import Derived.Laws.AppendOwn
set_option linter.unusedVariables false
set_option linter.unusedSimpArgs false
namespace Go.Proofs.Ytdfpenjhpemokaa
open Go.RowKit

def IntRow (w : World) (A : Option Addr) (n : Nat) (f : Nat → Int) : Prop :=
  ∀ k, k < n → ∃ b off, A = some ⟨b, off, none⟩ ∧ b < w.heap.size ∧ w.cell? ⟨b, off + k, none⟩ = some (.int .i64 (f k))

theorem IntRow.below {w w' : World} {A : Option Addr} {n : Nat} {f : Nat → Int} (h : IntRow w A n f) (hb : Below w.heap.size w w') : IntRow w' A n f := fun k hk => by
  obtain ⟨b, off, h1, h2, h3⟩ := h k hk
  exact ⟨b, off, h1, Nat.lt_of_lt_of_le h2 hb.size, (hb.cell (p := ⟨b, _, none⟩) h2).trans h3⟩
theorem IntRow.nil (w : World) (A : Option Addr) (f : Nat → Int) : IntRow w A 0 f := fun _ h => absurd h (Nat.not_lt_zero _)
theorem IntRow.congr {w : World} {A : Option Addr} {n : Nat} {f g : Nat → Int} (h : IntRow w A n f) (e : ∀ k, k < n → f k = g k) : IntRow w A n g := fun k hk => by
  obtain ⟨b, off, h1, h2, h3⟩ := h k hk
  exact ⟨b, off, h1, h2, by rw [← e k hk]; exact h3⟩

theorem ownsRow_below {w w' : World} {base : Nat} {e : TypeId} {size : Nat} {v : Value} {n : Nat} {xs : List Value} (h : w.ownsRow base e size v n xs) {B : Nat} (hb : Below B w w') (hB : w.heap.size ≤ B) : w'.ownsRow base e size v n xs := by
  obtain ⟨h1, h2⟩ := h
  refine ⟨h1, ?_⟩
  rcases h2 with h2 | ⟨g, cap, cur, hv, hg, hh, r⟩
  · exact .inl h2
  · exact .inr ⟨g, cap, cur, hv, hg, by rw [hb.block g (by have := (Array.getElem?_eq_some_iff.1 hh).1; omega)]; exact hh, r⟩
theorem ownsRow_base {w : World} {base base' : Nat} {e : TypeId} {size : Nat} {v : Value} {n : Nat} {xs : List Value} (h : w.ownsRow base e size v n xs) (hb : base' ≤ base) : w.ownsRow base' e size v n xs := by
  obtain ⟨h1, h2⟩ := h
  refine ⟨h1, ?_⟩
  rcases h2 with h2 | ⟨g, cap, cur, hv, hg, r⟩
  · exact .inl h2
  · exact .inr ⟨g, cap, cur, hv, Nat.le_trans hb hg, r⟩
theorem grown_trans {a b c : World} {r : Option Nat} (h : a.grownBy b r) (k : b.grownBy c r) : a.grownBy c r :=
  ⟨k.os.trans h.os, k.tape.trans h.tape, k.output.trans h.output, Nat.le_trans h.size k.size, fun i hi hr => (k.block i (Nat.lt_of_lt_of_le hi h.size) hr).trans (h.block i hi hr)⟩
theorem grown_set {a w : World} {b : Nat} (h : a.grownBy w (some b)) {p : Addr} (hp : p.block = b) (u : Value) : a.grownBy (w.setCell p u) (some b) :=
  grown_trans h ⟨rfl, rfl, rfl, by simp [World.setCell], fun k _ hr => Below.heap_setCell _ _ _ _ (fun e => hr (by rw [e, hp]))⟩
theorem grown_alloc {a w : World} {r : Option Nat} (h : a.grownBy w r) (o : Obj) : a.grownBy (w.alloc o) r :=
  grown_trans h ⟨rfl, rfl, rfl, by simp, fun k hk _ => Below.heap_alloc _ _ _ hk⟩
theorem grown_drew {a w : World} {r : Option Nat} (h : a.grownBy w r) : a.grownBy w.drew r := ⟨h.os, h.tape, h.output, h.size, h.block⟩
theorem grown_below {a w w' : World} {r : Option Nat} (h : a.grownBy w r) (hb : Below w.heap.size w w') : a.grownBy w' r :=
  grown_trans h ⟨hb.os, hb.tape, hb.output, hb.size, fun k hk _ => hb.block k hk⟩
theorem Below.app {B : Nat} {a w w' : World} {v : Value} {base : Nat} {e : TypeId} {size n : Nat} {xs : List Value} (h : Below B a w) (hg : w.grownBy w' v.ownBlock) (ho : w.ownsRow base e size v n xs) (hB : B ≤ base) (hs : B ≤ w.heap.size) : Below B a w' :=
  h.grown hg hs (fun k hk => Nat.le_trans hB (ho.lt k hk).1)

theorem run_min_is (a b m : Int) (h : m = min a b) (ts : Array TypeId) (t : TypeId) (w : World) : (Builtin.min_ ts t #[.int .i64 a, .int .i64 b]).run Try.prog w = .ok (.int .i64 m) w := by
  rw [run_min_int2, h]; congr 2; split <;> omega
theorem run_max_is (a b m : Int) (h : m = max a b) (ts : Array TypeId) (t : TypeId) (w : World) : (Builtin.max_ ts t #[.int .i64 a, .int .i64 b]).run Try.prog w = .ok (.int .i64 m) w := by
  rw [run_max_int2, h]; congr 2; split <;> omega
end Go.Proofs.Ytdfpenjhpemokaa
