/-
  A walk's world under a new name, with what is known of it: so that what follows speaks of small terms.
-/
import Derived.Test.YtdfpenjhpemokaaErr2
import Derived.Laws.IdiomStrings
set_option linter.unusedVariables false
set_option linter.unusedSimpArgs false
namespace Go.Proofs.Ytdfpenjhpemokaa
open Go.RowKit

theorem exit_world {Q : Exit → Act → World → Prop} {e : Exit} {a : Act} {W : World} (S : World → Prop) (hS : S W) (h : ∀ x, S x → Q e a x) : Q e a W := h W hS
theorem wp_world {P : Program} {c : Code} {Q : Exit → Act → World → Prop} {a : Act} {W : World} (S : World → Prop) (hS : S W) (h : ∀ x, S x → c.wp P Q a x) : c.wp P Q a W := h W hS
theorem cell_new {w : World} {c : Array Value} {t : TypeId} {g : Nat × Nat} {b i : Nat} {v : Value} (hb : b = w.heap.size) (hc : c[i]? = some v) : (w.alloc (.cells c t g)).cell? ⟨b, i, none⟩ = some v := by
  subst hb
  exact (World.cell?_alloc_mark w c t g i).trans hc
theorem frozen_new {w : World} {c : Array Value} {t : TypeId} {b i : Nat} (hb : b = w.heap.size) : (w.alloc (.cells c t)).frozen? ⟨b, i, none⟩ = false := World.frozen?_alloc_at _ _ _ _ hb
theorem frozen_alloc_keep {w : World} {a : Addr} {o : Obj} (hlt : a.block < w.heap.size) (h : w.frozen? a = false) : (w.alloc o).frozen? a = false := by
  rw [World.frozen?_alloc_old _ _ _ (Nat.ne_of_lt hlt)]; exact h
theorem frozen_drew_keep {w : World} {a : Addr} (h : w.frozen? a = false) : w.drew.frozen? a = false := h
theorem frozen_drewN_keep {w : World} {a : Addr} {n : Nat} (h : w.frozen? a = false) : (w.drewN n).frozen? a = false := h
theorem frozen_set_keep {w : World} {a p : Addr} {u : Value} (h : w.frozen? a = false) : (w.setCell p u).frozen? a = false := by
  rw [World.frozen?_setCell]; exact h
theorem cell_set_ne {w : World} {a p : Addr} {v u : Value} (h : w.cell? a = some v) (hne : p ≠ a) : (w.setCell p u).cell? a = some v := (World.cell?_setCell_other _ _ _ _ hne).trans h
def HasCell (w : World) (a : Addr) : Prop := ∃ x, w.cell? a = some x
theorem has_of {w : World} {a : Addr} {v : Value} (h : w.cell? a = some v) : HasCell w a := ⟨v, h⟩
theorem has_set {w : World} {a p : Addr} {u : Value} (h : HasCell w a) : HasCell (w.setCell p u) a := by
  obtain ⟨x, hx⟩ := h
  by_cases e : p = a
  · subst e; exact ⟨_, World.cell?_setCell_same _ _ _ hx⟩
  · exact ⟨x, (World.cell?_setCell_other _ _ _ _ e).trans hx⟩
theorem has_alloc {w : World} {a : Addr} {o : Obj} (h : HasCell w a) : HasCell (w.alloc o) a := by
  obtain ⟨x, hx⟩ := h
  exact ⟨x, cell_alloc_keep hx⟩
theorem has_drew {w : World} {a : Addr} (h : HasCell w a) : HasCell w.drew a := h
theorem cell_set_here {w : World} {a : Addr} {u : Value} (h : HasCell w a) : (w.setCell a u).cell? a = some u := by
  obtain ⟨x, hx⟩ := h
  exact World.cell?_setCell_same _ _ _ hx
theorem cell_set_blk {w : World} {b c i j : Nat} {v u : Value} (hne : ¬ b = c) (h : w.cell? ⟨c, j, none⟩ = some v) : (w.setCell ⟨b, i, none⟩ u).cell? ⟨c, j, none⟩ = some v := (World.cell?_setCell_other _ _ _ _ (fun e => hne (by simpa using congrArg Addr.block e))).trans h
theorem cell_set_off {w : World} {b i j : Nat} {v u : Value} (hne : ¬ i = j) (h : w.cell? ⟨b, j, none⟩ = some v) : (w.setCell ⟨b, i, none⟩ u).cell? ⟨b, j, none⟩ = some v := (World.cell?_setCell_other _ _ _ _ (fun e => hne (by simpa using congrArg Addr.off e))).trans h
theorem cell_below {w w1 : World} {a : Addr} {v : Value} {n : Nat} (hb : Below n w w1) (hlt : a.block < n) (h : w.cell? a = some v) : w1.cell? a = some v := by
  rw [hb.cell hlt]; exact h
theorem frozen_below {w w1 : World} {a : Addr} {n : Nat} (hb : Below n w w1) (hlt : a.block < n) (h : w.frozen? a = false) : w1.frozen? a = false := by
  rw [hb.frozen hlt]; exact h

@[go_sem high] theorem cell_past2 (w : World) (o0 o1 : Obj) (n i : Nat) (h : n < w.heap.size) : ((w.alloc o0).alloc o1).cell? ⟨n, i, none⟩ = w.cell? ⟨n, i, none⟩ :=
  (World.cell?_alloc_past (w := (w.alloc o0)) o1 n i (by simp only [World.size_alloc]; omega)).trans (World.cell?_alloc_past (w := w) o0 n i h)
@[go_sem high] theorem frozen_past2 (w : World) (o0 o1 : Obj) (n i : Nat) (h : n < w.heap.size) : ((w.alloc o0).alloc o1).frozen? ⟨n, i, none⟩ = w.frozen? ⟨n, i, none⟩ :=
  (World.frozen?_alloc_past (w := (w.alloc o0)) o1 n i (by simp only [World.size_alloc]; omega)).trans (World.frozen?_alloc_past (w := w) o0 n i h)
@[go_sem high] theorem cell_past3 (w : World) (o0 o1 o2 : Obj) (n i : Nat) (h : n < w.heap.size) : (((w.alloc o0).alloc o1).alloc o2).cell? ⟨n, i, none⟩ = w.cell? ⟨n, i, none⟩ :=
  (World.cell?_alloc_past (w := ((w.alloc o0).alloc o1)) o2 n i (by simp only [World.size_alloc]; omega)).trans (cell_past2 w o0 o1 n i h)
@[go_sem high] theorem frozen_past3 (w : World) (o0 o1 o2 : Obj) (n i : Nat) (h : n < w.heap.size) : (((w.alloc o0).alloc o1).alloc o2).frozen? ⟨n, i, none⟩ = w.frozen? ⟨n, i, none⟩ :=
  (World.frozen?_alloc_past (w := ((w.alloc o0).alloc o1)) o2 n i (by simp only [World.size_alloc]; omega)).trans (frozen_past2 w o0 o1 n i h)
@[go_sem high] theorem cell_past4 (w : World) (o0 o1 o2 o3 : Obj) (n i : Nat) (h : n < w.heap.size) : ((((w.alloc o0).alloc o1).alloc o2).alloc o3).cell? ⟨n, i, none⟩ = w.cell? ⟨n, i, none⟩ :=
  (World.cell?_alloc_past (w := (((w.alloc o0).alloc o1).alloc o2)) o3 n i (by simp only [World.size_alloc]; omega)).trans (cell_past3 w o0 o1 o2 n i h)
@[go_sem high] theorem frozen_past4 (w : World) (o0 o1 o2 o3 : Obj) (n i : Nat) (h : n < w.heap.size) : ((((w.alloc o0).alloc o1).alloc o2).alloc o3).frozen? ⟨n, i, none⟩ = w.frozen? ⟨n, i, none⟩ :=
  (World.frozen?_alloc_past (w := (((w.alloc o0).alloc o1).alloc o2)) o3 n i (by simp only [World.size_alloc]; omega)).trans (frozen_past3 w o0 o1 o2 n i h)
@[go_sem high] theorem cell_past5 (w : World) (o0 o1 o2 o3 o4 : Obj) (n i : Nat) (h : n < w.heap.size) : (((((w.alloc o0).alloc o1).alloc o2).alloc o3).alloc o4).cell? ⟨n, i, none⟩ = w.cell? ⟨n, i, none⟩ :=
  (World.cell?_alloc_past (w := ((((w.alloc o0).alloc o1).alloc o2).alloc o3)) o4 n i (by simp only [World.size_alloc]; omega)).trans (cell_past4 w o0 o1 o2 o3 n i h)
@[go_sem high] theorem frozen_past5 (w : World) (o0 o1 o2 o3 o4 : Obj) (n i : Nat) (h : n < w.heap.size) : (((((w.alloc o0).alloc o1).alloc o2).alloc o3).alloc o4).frozen? ⟨n, i, none⟩ = w.frozen? ⟨n, i, none⟩ :=
  (World.frozen?_alloc_past (w := ((((w.alloc o0).alloc o1).alloc o2).alloc o3)) o4 n i (by simp only [World.size_alloc]; omega)).trans (frozen_past4 w o0 o1 o2 o3 n i h)
@[go_sem high] theorem cell_past6 (w : World) (o0 o1 o2 o3 o4 o5 : Obj) (n i : Nat) (h : n < w.heap.size) : ((((((w.alloc o0).alloc o1).alloc o2).alloc o3).alloc o4).alloc o5).cell? ⟨n, i, none⟩ = w.cell? ⟨n, i, none⟩ :=
  (World.cell?_alloc_past (w := (((((w.alloc o0).alloc o1).alloc o2).alloc o3).alloc o4)) o5 n i (by simp only [World.size_alloc]; omega)).trans (cell_past5 w o0 o1 o2 o3 o4 n i h)
@[go_sem high] theorem frozen_past6 (w : World) (o0 o1 o2 o3 o4 o5 : Obj) (n i : Nat) (h : n < w.heap.size) : ((((((w.alloc o0).alloc o1).alloc o2).alloc o3).alloc o4).alloc o5).frozen? ⟨n, i, none⟩ = w.frozen? ⟨n, i, none⟩ :=
  (World.frozen?_alloc_past (w := (((((w.alloc o0).alloc o1).alloc o2).alloc o3).alloc o4)) o5 n i (by simp only [World.size_alloc]; omega)).trans (frozen_past5 w o0 o1 o2 o3 o4 n i h)
@[go_sem high] theorem cell_past7 (w : World) (o0 o1 o2 o3 o4 o5 o6 : Obj) (n i : Nat) (h : n < w.heap.size) : (((((((w.alloc o0).alloc o1).alloc o2).alloc o3).alloc o4).alloc o5).alloc o6).cell? ⟨n, i, none⟩ = w.cell? ⟨n, i, none⟩ :=
  (World.cell?_alloc_past (w := ((((((w.alloc o0).alloc o1).alloc o2).alloc o3).alloc o4).alloc o5)) o6 n i (by simp only [World.size_alloc]; omega)).trans (cell_past6 w o0 o1 o2 o3 o4 o5 n i h)
@[go_sem high] theorem frozen_past7 (w : World) (o0 o1 o2 o3 o4 o5 o6 : Obj) (n i : Nat) (h : n < w.heap.size) : (((((((w.alloc o0).alloc o1).alloc o2).alloc o3).alloc o4).alloc o5).alloc o6).frozen? ⟨n, i, none⟩ = w.frozen? ⟨n, i, none⟩ :=
  (World.frozen?_alloc_past (w := ((((((w.alloc o0).alloc o1).alloc o2).alloc o3).alloc o4).alloc o5)) o6 n i (by simp only [World.size_alloc]; omega)).trans (frozen_past6 w o0 o1 o2 o3 o4 o5 n i h)
@[go_sem high] theorem cell_past8 (w : World) (o0 o1 o2 o3 o4 o5 o6 o7 : Obj) (n i : Nat) (h : n < w.heap.size) : ((((((((w.alloc o0).alloc o1).alloc o2).alloc o3).alloc o4).alloc o5).alloc o6).alloc o7).cell? ⟨n, i, none⟩ = w.cell? ⟨n, i, none⟩ :=
  (World.cell?_alloc_past (w := (((((((w.alloc o0).alloc o1).alloc o2).alloc o3).alloc o4).alloc o5).alloc o6)) o7 n i (by simp only [World.size_alloc]; omega)).trans (cell_past7 w o0 o1 o2 o3 o4 o5 o6 n i h)
@[go_sem high] theorem frozen_past8 (w : World) (o0 o1 o2 o3 o4 o5 o6 o7 : Obj) (n i : Nat) (h : n < w.heap.size) : ((((((((w.alloc o0).alloc o1).alloc o2).alloc o3).alloc o4).alloc o5).alloc o6).alloc o7).frozen? ⟨n, i, none⟩ = w.frozen? ⟨n, i, none⟩ :=
  (World.frozen?_alloc_past (w := (((((((w.alloc o0).alloc o1).alloc o2).alloc o3).alloc o4).alloc o5).alloc o6)) o7 n i (by simp only [World.size_alloc]; omega)).trans (frozen_past7 w o0 o1 o2 o3 o4 o5 o6 n i h)
end Go.Proofs.Ytdfpenjhpemokaa
