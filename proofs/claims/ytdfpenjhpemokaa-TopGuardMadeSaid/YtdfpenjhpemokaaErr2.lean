/-
  The reference's First (of errors that is one), and fix.Add: loops over slices that are only read.
-/
import Derived.Test.YtdfpenjhpemokaaErr
import Derived.Deep.RegionHeld3
set_option linter.unusedVariables false
set_option linter.unusedSimpArgs false
namespace Go.Proofs.Ytdfpenjhpemokaa
open Go.RowKit

theorem cell_alloc_keep {w : World} {a : Addr} {v : Value} {o : Obj} (h : w.cell? a = some v) : (w.alloc o).cell? a = some v := by
  rw [World.cell?_alloc_some w a o (by simp [h]), h]
theorem cell_drew_keep {w : World} {a : Addr} {v : Value} (h : w.cell? a = some v) : w.drew.cell? a = some v := h
theorem cell_drewN_keep {w : World} {a : Addr} {v : Value} {n : Nat} (h : w.cell? a = some v) : (w.drewN n).cell? a = some v := h

theorem cell_set_keep {w : World} {a p : Addr} {v u : Value} (h : w.cell? a = some v) (hne : p.block ≠ a.block) : (w.setCell p u).cell? a = some v := by
  rw [World.cell?_setCell_other w p a u (fun e => by subst e; exact hne rfl), h]

def por (a b : Int) : Int := if a = 0 then b else a
theorem por_0 (b : Int) : por 0 b = b := rfl
theorem por_ne {a b : Int} (h : a ≠ 0) : por a b = a := if_neg h
end Go.Proofs.Ytdfpenjhpemokaa
