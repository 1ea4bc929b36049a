/-
  A walk's world under a new name, with what is known of it: so that what follows speaks of small terms.
-/
import Derived.Test.YtdfpenjhpemokaaErr2
import Derived.Laws.IdiomStrings
set_option linter.unusedVariables false
set_option linter.unusedSimpArgs false
namespace Go.Proofs.Ytdfpenjhpemokaa
open Go.RowKit

theorem wp_world {P : Program} {c : Code} {Q : Exit → Act → World → Prop} {a : Act} {W : World} (S : World → Prop) (hS : S W) (h : ∀ x, S x → c.wp P Q a x) : c.wp P Q a W := h W hS
theorem cell_new {w : World} {c : Array Value} {t : TypeId} {g : Nat × Nat} {b i : Nat} {v : Value} (hb : b = w.heap.size) (hc : c[i]? = some v) : (w.alloc (.cells c t g)).cell? ⟨b, i, none⟩ = some v := by
  subst hb
  exact (World.cell?_alloc_mark w c t g i).trans hc
theorem frozen_new {w : World} {c : Array Value} {t : TypeId} {b i : Nat} (hb : b = w.heap.size) : (w.alloc (.cells c t)).frozen? ⟨b, i, none⟩ = false := World.frozen?_alloc_at _ _ _ _ hb
theorem cell_set_same {w : World} {a : Addr} {v u : Value} (h : ∃ x, w.cell? a = some x) (e : u = v) : (w.setCell a u).cell? a = some v := by
  obtain ⟨x, hx⟩ := h
  rw [World.cell?_setCell_same _ _ _ hx, e]
@[go_sem high] theorem cell_past2 (w : World) (o0 o1 : Obj) (n i : Nat) (h : n < w.heap.size) : ((w.alloc o0).alloc o1).cell? ⟨n, i, none⟩ = w.cell? ⟨n, i, none⟩ :=
  (World.cell?_alloc_past (w := (w.alloc o0)) o1 n i (by simp only [World.size_alloc]; omega)).trans (World.cell?_alloc_past (w := w) o0 n i h)
@[go_sem high] theorem frozen_past2 (w : World) (o0 o1 : Obj) (n i : Nat) (h : n < w.heap.size) : ((w.alloc o0).alloc o1).frozen? ⟨n, i, none⟩ = w.frozen? ⟨n, i, none⟩ :=
  (World.frozen?_alloc_past (w := (w.alloc o0)) o1 n i (by simp only [World.size_alloc]; omega)).trans (World.frozen?_alloc_past (w := w) o0 n i h)
@[go_sem high] theorem cell_past3 (w : World) (o0 o1 o2 : Obj) (n i : Nat) (h : n < w.heap.size) : (((w.alloc o0).alloc o1).alloc o2).cell? ⟨n, i, none⟩ = w.cell? ⟨n, i, none⟩ :=
  (World.cell?_alloc_past (w := ((w.alloc o0).alloc o1)) o2 n i (by simp only [World.size_alloc]; omega)).trans (cell_past2 w o0 o1 n i h)
@[go_sem high] theorem frozen_past3 (w : World) (o0 o1 o2 : Obj) (n i : Nat) (h : n < w.heap.size) : (((w.alloc o0).alloc o1).alloc o2).frozen? ⟨n, i, none⟩ = w.frozen? ⟨n, i, none⟩ :=
  (World.frozen?_alloc_past (w := ((w.alloc o0).alloc o1)) o2 n i (by simp only [World.size_alloc]; omega)).trans (frozen_past2 w o0 o1 n i h)
@[go_sem high] theorem cell_past4 (w : World) (o0 o1 o2 o3 : Obj) (n i : Nat) (h : n < w.heap.size) : ((((w.alloc o0).alloc o1).alloc o2).alloc o3).cell? ⟨n, i, none⟩ = w.cell? ⟨n, i, none⟩ :=
  (World.cell?_alloc_past (w := (((w.alloc o0).alloc o1).alloc o2)) o3 n i (by simp only [World.size_alloc]; omega)).trans (cell_past3 w o0 o1 o2 n i h)
@[go_sem high] theorem frozen_past4 (w : World) (o0 o1 o2 o3 : Obj) (n i : Nat) (h : n < w.heap.size) : ((((w.alloc o0).alloc o1).alloc o2).alloc o3).frozen? ⟨n, i, none⟩ = w.frozen? ⟨n, i, none⟩ :=
  (World.frozen?_alloc_past (w := (((w.alloc o0).alloc o1).alloc o2)) o3 n i (by simp only [World.size_alloc]; omega)).trans (frozen_past3 w o0 o1 o2 n i h)
@[go_sem high] theorem cell_past5 (w : World) (o0 o1 o2 o3 o4 : Obj) (n i : Nat) (h : n < w.heap.size) : (((((w.alloc o0).alloc o1).alloc o2).alloc o3).alloc o4).cell? ⟨n, i, none⟩ = w.cell? ⟨n, i, none⟩ :=
  (World.cell?_alloc_past (w := ((((w.alloc o0).alloc o1).alloc o2).alloc o3)) o4 n i (by simp only [World.size_alloc]; omega)).trans (cell_past4 w o0 o1 o2 o3 n i h)
@[go_sem high] theorem frozen_past5 (w : World) (o0 o1 o2 o3 o4 : Obj) (n i : Nat) (h : n < w.heap.size) : (((((w.alloc o0).alloc o1).alloc o2).alloc o3).alloc o4).frozen? ⟨n, i, none⟩ = w.frozen? ⟨n, i, none⟩ :=
  (World.frozen?_alloc_past (w := ((((w.alloc o0).alloc o1).alloc o2).alloc o3)) o4 n i (by simp only [World.size_alloc]; omega)).trans (frozen_past4 w o0 o1 o2 o3 n i h)
@[go_sem high] theorem cell_past6 (w : World) (o0 o1 o2 o3 o4 o5 : Obj) (n i : Nat) (h : n < w.heap.size) : ((((((w.alloc o0).alloc o1).alloc o2).alloc o3).alloc o4).alloc o5).cell? ⟨n, i, none⟩ = w.cell? ⟨n, i, none⟩ :=
  (World.cell?_alloc_past (w := (((((w.alloc o0).alloc o1).alloc o2).alloc o3).alloc o4)) o5 n i (by simp only [World.size_alloc]; omega)).trans (cell_past5 w o0 o1 o2 o3 o4 n i h)
@[go_sem high] theorem frozen_past6 (w : World) (o0 o1 o2 o3 o4 o5 : Obj) (n i : Nat) (h : n < w.heap.size) : ((((((w.alloc o0).alloc o1).alloc o2).alloc o3).alloc o4).alloc o5).frozen? ⟨n, i, none⟩ = w.frozen? ⟨n, i, none⟩ :=
  (World.frozen?_alloc_past (w := (((((w.alloc o0).alloc o1).alloc o2).alloc o3).alloc o4)) o5 n i (by simp only [World.size_alloc]; omega)).trans (frozen_past5 w o0 o1 o2 o3 o4 n i h)
@[go_sem high] theorem cell_past7 (w : World) (o0 o1 o2 o3 o4 o5 o6 : Obj) (n i : Nat) (h : n < w.heap.size) : (((((((w.alloc o0).alloc o1).alloc o2).alloc o3).alloc o4).alloc o5).alloc o6).cell? ⟨n, i, none⟩ = w.cell? ⟨n, i, none⟩ :=
  (World.cell?_alloc_past (w := ((((((w.alloc o0).alloc o1).alloc o2).alloc o3).alloc o4).alloc o5)) o6 n i (by simp only [World.size_alloc]; omega)).trans (cell_past6 w o0 o1 o2 o3 o4 o5 n i h)
@[go_sem high] theorem frozen_past7 (w : World) (o0 o1 o2 o3 o4 o5 o6 : Obj) (n i : Nat) (h : n < w.heap.size) : (((((((w.alloc o0).alloc o1).alloc o2).alloc o3).alloc o4).alloc o5).alloc o6).frozen? ⟨n, i, none⟩ = w.frozen? ⟨n, i, none⟩ :=
  (World.frozen?_alloc_past (w := ((((((w.alloc o0).alloc o1).alloc o2).alloc o3).alloc o4).alloc o5)) o6 n i (by simp only [World.size_alloc]; omega)).trans (frozen_past6 w o0 o1 o2 o3 o4 o5 n i h)
@[go_sem high] theorem cell_past8 (w : World) (o0 o1 o2 o3 o4 o5 o6 o7 : Obj) (n i : Nat) (h : n < w.heap.size) : ((((((((w.alloc o0).alloc o1).alloc o2).alloc o3).alloc o4).alloc o5).alloc o6).alloc o7).cell? ⟨n, i, none⟩ = w.cell? ⟨n, i, none⟩ :=
  (World.cell?_alloc_past (w := (((((((w.alloc o0).alloc o1).alloc o2).alloc o3).alloc o4).alloc o5).alloc o6)) o7 n i (by simp only [World.size_alloc]; omega)).trans (cell_past7 w o0 o1 o2 o3 o4 o5 o6 n i h)
@[go_sem high] theorem frozen_past8 (w : World) (o0 o1 o2 o3 o4 o5 o6 o7 : Obj) (n i : Nat) (h : n < w.heap.size) : ((((((((w.alloc o0).alloc o1).alloc o2).alloc o3).alloc o4).alloc o5).alloc o6).alloc o7).frozen? ⟨n, i, none⟩ = w.frozen? ⟨n, i, none⟩ :=
  (World.frozen?_alloc_past (w := (((((((w.alloc o0).alloc o1).alloc o2).alloc o3).alloc o4).alloc o5).alloc o6)) o7 n i (by simp only [World.size_alloc]; omega)).trans (frozen_past7 w o0 o1 o2 o3 o4 o5 o6 n i h)
end Go.Proofs.Ytdfpenjhpemokaa
