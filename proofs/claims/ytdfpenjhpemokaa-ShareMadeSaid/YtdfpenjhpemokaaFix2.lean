/-
  fix.Sub, Div, Root; the reference's Div.
-/
import Derived.Test.YtdfpenjhpemokaaErr2
set_option linter.unusedVariables false
set_option linter.unusedSimpArgs false
namespace Go.Proofs.Ytdfpenjhpemokaa
open Go.RowKit

theorem cells2 (w : World) (x y : Int) (t : TypeId) (g : Nat × Nat) (b : Nat) (hb : b = w.heap.size) : ∀ k, k < 2 → (w.alloc (.cells #[.int .i64 x, .int .i64 y] t g)).cell? ⟨b, k, none⟩ = some (.int .i64 ([x, y][k]?.getD 0)) := by
  subst hb
  intro k hk
  have hh : (w.alloc (.cells #[.int .i64 x, .int .i64 y] t g)).heap[w.heap.size]? = some (.cells #[.int .i64 x, .int .i64 y] t g) := heap_alloc_new w _
  rw [cell_of_row _ _ _ _ t g hh]
  match k, hk with
  | 0, _ => rfl
  | 1, _ => rfl
end Go.Proofs.Ytdfpenjhpemokaa
