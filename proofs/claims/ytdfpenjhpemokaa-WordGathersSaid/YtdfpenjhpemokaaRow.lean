/-
  Slices of ints, their cells; own slices read as such.
-/
import Derived.Test.YtdfpenjhpemokaaKit
import Derived.Laws.AppendOwn
set_option linter.unusedVariables false
set_option linter.unusedSimpArgs false
namespace Go.Proofs.Ytdfpenjhpemokaa
open Go.RowKit

def IntRow (w : World) (A : Option Addr) (n : Nat) (f : Nat → Int) : Prop :=
  ∀ k, k < n → ∃ b off, A = some ⟨b, off, none⟩ ∧ b < w.heap.size ∧ w.cell? ⟨b, off + k, none⟩ = some (.int .i64 (f k))

theorem IntRow.below {w w' : World} {A : Option Addr} {n : Nat} {f : Nat → Int} (h : IntRow w A n f) (hb : Below w.heap.size w w') : IntRow w' A n f := fun k hk => by
  obtain ⟨b, off, h1, h2, h3⟩ := h k hk
  exact ⟨b, off, h1, Nat.lt_of_lt_of_le h2 hb.size, (hb.cell (p := ⟨b, _, none⟩) h2).trans h3⟩
theorem IntRow.nil (w : World) (A : Option Addr) (f : Nat → Int) : IntRow w A 0 f := fun _ h => absurd h (Nat.not_lt_zero _)
theorem IntRow.congr {w : World} {A : Option Addr} {n : Nat} {f g : Nat → Int} (h : IntRow w A n f) (e : ∀ k, k < n → f k = g k) : IntRow w A n g := fun k hk => by
  obtain ⟨b, off, h1, h2, h3⟩ := h k hk
  exact ⟨b, off, h1, h2, by rw [← e k hk]; exact h3⟩

theorem grown_trans {a b c : World} {r : Option Nat} (h : a.grownBy b r) (k : b.grownBy c r) : a.grownBy c r :=
  ⟨k.os.trans h.os, k.tape.trans h.tape, k.output.trans h.output, Nat.le_trans h.size k.size, fun i hi hr => (k.block i (Nat.lt_of_lt_of_le hi h.size) hr).trans (h.block i hi hr)⟩
theorem grown_set {a w : World} {b : Nat} (h : a.grownBy w (some b)) {p : Addr} (hp : p.block = b) (u : Value) : a.grownBy (w.setCell p u) (some b) :=
  grown_trans h ⟨rfl, rfl, rfl, by simp [World.setCell], fun k _ hr => Below.heap_setCell _ _ _ _ (fun e => hr (by rw [e, hp]))⟩
theorem Below.app {B : Nat} {a w w' : World} {v : Value} {base : Nat} {e : TypeId} {size n : Nat} {xs : List Value} (h : Below B a w) (hg : w.grownBy w' v.ownBlock) (ho : w.ownsRow base e size v n xs) (hB : B ≤ base) (hs : B ≤ w.heap.size) : Below B a w' :=
  h.grown hg hs (fun k hk => Nat.le_trans hB (ho.lt k hk).1)

end Go.Proofs.Ytdfpenjhpemokaa
