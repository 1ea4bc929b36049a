/-
  Raw numbers, one behind the other: (*R.Dice).N and (*R.Dice).Most: contracts that tell bounds alone.
-/
import Derived.Test.YtdfpenjhpemokaaSxStd
import Derived.Test.YtdfpenjhpemokaaKit
import Derived.Deep.Cut
import Derived.Deep.CutRange
import Derived.Outline
import Derived.Deep.RegionHeld3
import Derived.BigQuiet
import Derived.Deep.QuietTactic
import Derived.Maps.AppendAt
import Derived.Deep.AppendLies
import Derived.Deep.OwnRows
set_option linter.unusedVariables false
set_option linter.unusedSimpArgs false
namespace Go.Proofs.Ytdfpenjhpemokaa.Sx
open Go.RowKit
structure DiceOk (w : World) (d : Nat) (g : GD) (at' : Int) : Prop where
  c0 : w.cell? ⟨d, 0, none⟩ = some (.slice g.A g.n g.c)
  c1 : w.cell? ⟨d, 1, none⟩ = some (.int .i64 at')
  f : ∀ o, w.frozen? ⟨d, o, none⟩ = false
  lt : d < w.heap.size
  ok : g.ok w
  ne : ∀ bl off s, g.A = some ⟨bl, off, s⟩ → 0 < g.n → bl ≠ d
  ks : g.ks = [true]
  n : g.n ≤ 1000
theorem gd_grown {g : GD} {w w' : World} {d : Nat} (h : g.ok w) (hg : w.grownBy w' (some d)) (hne : ∀ bl off s, g.A = some ⟨bl, off, s⟩ → 0 < g.n → bl ≠ d) : g.ok w' :=
  ⟨h.n, fun i j hi hj => by
    obtain ⟨bl, off, e1, e2, e3⟩ := h.cell i j hi hj
    refine ⟨bl, off, e1, Nat.lt_of_lt_of_le e2 hg.size, hg.cell e3 ?_⟩
    intro hc
    exact hne bl off none e1 (by omega) (by simpa using hc), h.b64⟩
theorem DiceOk.grown {w w' : World} {d : Nat} {g : GD} {a a' : Int} (h : DiceOk w d g a) (hg : w.grownBy w' (some d)) (c0 : w'.cell? ⟨d, 0, none⟩ = some (.slice g.A g.n g.c)) (c1 : w'.cell? ⟨d, 1, none⟩ = some (.int .i64 a')) (f : ∀ o, w'.frozen? ⟨d, o, none⟩ = false) : DiceOk w' d g a' :=
  ⟨c0, c1, f, Nat.lt_of_lt_of_le h.lt hg.size, gd_grown h.ok hg h.ne, h.ne, h.ks, h.n⟩
theorem gd_below' {g : GD} {w w' : World} (h : g.ok w) (hb : Below w.heap.size w w') : g.ok w' :=
  ⟨h.n, fun i j hi hj => by
    obtain ⟨bl, off, e1, e2, e3⟩ := h.cell i j hi hj
    exact ⟨bl, off, e1, Nat.lt_of_lt_of_le e2 hb.size, (hb.cell (p := ⟨bl, _, none⟩) e2).trans e3⟩, h.b64⟩
theorem DiceOk.below {w w' : World} {d : Nat} {g : GD} {a : Int} (h : DiceOk w d g a) (hb : Below w.heap.size w w') : DiceOk w' d g a :=
  ⟨(hb.cell (p := ⟨d, 0, none⟩) h.lt).trans h.c0, (hb.cell (p := ⟨d, 1, none⟩) h.lt).trans h.c1, fun o => (hb.frozen (p := ⟨d, o, none⟩) h.lt).trans (h.f o), Nat.lt_of_lt_of_le h.lt hb.size, gd_below' h.ok hb, h.ne, h.ks, h.n⟩
theorem DiceOk.alloc {w : World} {d : Nat} {g : GD} {a : Int} (h : DiceOk w d g a) (o : Obj) : DiceOk (w.alloc o) d g a := h.below (Below.alloc (Below.refl _ _) (Nat.le_refl _) _)
theorem DiceOk.drew {w : World} {d : Nat} {g : GD} {a : Int} (h : DiceOk w d g a) : DiceOk w.drew d g a := h.below (Below.drew (Below.refl _ _))
theorem grown_set (w : World) (b i : Nat) (v : Value) : w.grownBy (w.setCell ⟨b, i, none⟩ v) (some b) :=
  ⟨rfl, rfl, rfl, by simp [World.setCell], fun k hk hne => Below.heap_setCell _ _ _ _ (fun h => hne (by simp [h]))⟩
theorem DiceOk.set {w : World} {d : Nat} {g : GD} {a : Int} (h : DiceOk w d g a) {b i : Nat} {v : Value} (hb : b ≠ d) (hr : ∀ bl off s, g.A = some ⟨bl, off, s⟩ → 0 < g.n → bl ≠ b) : DiceOk (w.setCell ⟨b, i, none⟩ v) d g a := by
  have hg := grown_set w b i v
  have hne : (some d : Option Nat) ≠ some b := fun h => hb (by simpa using h.symm)
  refine ⟨hg.cell h.c0 hne, hg.cell h.c1 hne, fun o => (World.frozen?_setCell _ _ _ _).trans (h.f o), Nat.lt_of_lt_of_le h.lt hg.size, gd_grown h.ok hg hr, h.ne, h.ks, h.n⟩
theorem DiceOk.step {w w' : World} {d : Nat} {g : GD} {a : Int} (h : DiceOk w d g a) (hw : Below w.heap.size w w') : DiceOk (w'.setCell ⟨d, 1, none⟩ (.int .i64 (a + 1))) d g (a + 1) ∧ w.grownBy (w'.setCell ⟨d, 1, none⟩ (.int .i64 (a + 1))) (some d) := by
  have h' := h.below hw
  have hg := grown_set w' d 1 (.int .i64 (a + 1))
  refine ⟨h'.grown hg ((World.cell?_setCell_other _ _ _ _ (by simp)).trans h'.c0) (World.cell?_setCell_same _ _ _ h'.c1) (fun o => (World.frozen?_setCell _ _ _ _).trans (h'.f o)), ?_⟩
  exact World.grownBy.trans ⟨hw.os, hw.tape, hw.output, hw.size, fun k hk _ => hw.block k hk⟩ hg
end Go.Proofs.Ytdfpenjhpemokaa.Sx
