/-
  The reference's First (of errors that is one), and fix.Add: loops over slices that are only read.
-/
import Derived.Test.YtdfpenjhpemokaaErr
import Derived.Deep.RegionHeld3
set_option linter.unusedVariables false
set_option linter.unusedSimpArgs false
namespace Go.Proofs.Ytdfpenjhpemokaa
open Go.RowKit

theorem cell_alloc_keep {w : World} {a : Addr} {v : Value} {o : Obj} (h : w.cell? a = some v) : (w.alloc o).cell? a = some v := by
  rw [World.cell?_alloc_some w a o (by simp [h]), h]
theorem cell_drew_keep {w : World} {a : Addr} {v : Value} (h : w.cell? a = some v) : w.drew.cell? a = some v := h
end Go.Proofs.Ytdfpenjhpemokaa
