/-
  Raw numbers, one behind the other: (*R.Dice).N and (*R.Dice).Most: contracts that tell bounds alone.
-/
import Derived.Test.YtdfpenjhpemokaaSxStd
import Derived.Test.YtdfpenjhpemokaaKit
import Derived.Deep.Cut
import Derived.Deep.CutRange
import Derived.Outline
import Derived.Deep.RegionHeld3
import Derived.BigQuiet
import Derived.Deep.QuietTactic
import Derived.Maps.AppendAt
import Derived.Deep.AppendLies
import Derived.Deep.OwnRows
set_option linter.unusedVariables false
set_option linter.unusedSimpArgs false
namespace Go.Proofs.Ytdfpenjhpemokaa.Sx
open Go.RowKit
structure DiceOk (w : World) (d : Nat) (g : GD) (at' : Int) : Prop where
  c0 : w.cell? ⟨d, 0, none⟩ = some (.slice g.A g.n g.c)
  c1 : w.cell? ⟨d, 1, none⟩ = some (.int .i64 at')
  f : ∀ o, w.frozen? ⟨d, o, none⟩ = false
  lt : d < w.heap.size
  ok : g.ok w
  ne : ∀ bl off s, g.A = some ⟨bl, off, s⟩ → 0 < g.n → bl ≠ d
  ks : g.ks = [true]
  n : g.n ≤ 1000
theorem gd_grown {g : GD} {w w' : World} {d : Nat} (h : g.ok w) (hg : w.grownBy w' (some d)) (hne : ∀ bl off s, g.A = some ⟨bl, off, s⟩ → 0 < g.n → bl ≠ d) : g.ok w' :=
  ⟨h.n, fun i j hi hj => by
    obtain ⟨bl, off, e1, e2, e3⟩ := h.cell i j hi hj
    refine ⟨bl, off, e1, Nat.lt_of_lt_of_le e2 hg.size, hg.cell e3 ?_⟩
    intro hc
    exact hne bl off none e1 (by omega) (by simpa using hc), h.b64⟩
theorem DiceOk.grown {w w' : World} {d : Nat} {g : GD} {a a' : Int} (h : DiceOk w d g a) (hg : w.grownBy w' (some d)) (c0 : w'.cell? ⟨d, 0, none⟩ = some (.slice g.A g.n g.c)) (c1 : w'.cell? ⟨d, 1, none⟩ = some (.int .i64 a')) (f : ∀ o, w'.frozen? ⟨d, o, none⟩ = false) : DiceOk w' d g a' :=
  ⟨c0, c1, f, Nat.lt_of_lt_of_le h.lt hg.size, gd_grown h.ok hg h.ne, h.ne, h.ks, h.n⟩
theorem gd_below' {g : GD} {w w' : World} (h : g.ok w) (hb : Below w.heap.size w w') : g.ok w' :=
  ⟨h.n, fun i j hi hj => by
    obtain ⟨bl, off, e1, e2, e3⟩ := h.cell i j hi hj
    exact ⟨bl, off, e1, Nat.lt_of_lt_of_le e2 hb.size, (hb.cell (p := ⟨bl, _, none⟩) e2).trans e3⟩, h.b64⟩
theorem DiceOk.below {w w' : World} {d : Nat} {g : GD} {a : Int} (h : DiceOk w d g a) (hb : Below w.heap.size w w') : DiceOk w' d g a :=
  ⟨(hb.cell (p := ⟨d, 0, none⟩) h.lt).trans h.c0, (hb.cell (p := ⟨d, 1, none⟩) h.lt).trans h.c1, fun o => (hb.frozen (p := ⟨d, o, none⟩) h.lt).trans (h.f o), Nat.lt_of_lt_of_le h.lt hb.size, gd_below' h.ok hb, h.ne, h.ks, h.n⟩
theorem DiceOk.alloc {w : World} {d : Nat} {g : GD} {a : Int} (h : DiceOk w d g a) (o : Obj) : DiceOk (w.alloc o) d g a := h.below (Below.alloc (Below.refl _ _) (Nat.le_refl _) _)
theorem DiceOk.drew {w : World} {d : Nat} {g : GD} {a : Int} (h : DiceOk w d g a) : DiceOk w.drew d g a := h.below (Below.drew (Below.refl _ _))
theorem grown_set (w : World) (b i : Nat) (v : Value) : w.grownBy (w.setCell ⟨b, i, none⟩ v) (some b) :=
  ⟨rfl, rfl, rfl, by simp [World.setCell], fun k hk hne => Below.heap_setCell _ _ _ _ (fun h => hne (by simp [h]))⟩
theorem DiceOk.set {w : World} {d : Nat} {g : GD} {a : Int} (h : DiceOk w d g a) {b i : Nat} {v : Value} (hb : b ≠ d) (hr : ∀ bl off s, g.A = some ⟨bl, off, s⟩ → 0 < g.n → bl ≠ b) : DiceOk (w.setCell ⟨b, i, none⟩ v) d g a := by
  have hg := grown_set w b i v
  have hne : (some d : Option Nat) ≠ some b := fun h => hb (by simpa using h.symm)
  refine ⟨hg.cell h.c0 hne, hg.cell h.c1 hne, fun o => (World.frozen?_setCell _ _ _ _).trans (h.f o), Nat.lt_of_lt_of_le h.lt hg.size, gd_grown h.ok hg hr, h.ne, h.ks, h.n⟩
theorem dice_div {a n : Int} (h0 : 0 ≤ a) (h1 : 0 < n) : 0 ≤ a.tdiv n ∧ a.tdiv n ≤ a := by
  rw [Int.tdiv_eq_ediv_of_nonneg h0]
  exact ⟨Int.ediv_nonneg h0 (by omega), Int.ediv_le_self _ h0⟩
theorem dice_mod {a : Int} {n : Nat} (h0 : 0 ≤ a) (h1 : 0 < n) : ∃ j : Nat, j < n ∧ a.tmod n = j := by
  rw [Int.tmod_eq_emod_of_nonneg h0]
  have e1 := Int.emod_nonneg a (b := n) (by omega)
  have e2 := Int.emod_lt_of_pos a (b := n) (by omega)
  exact ⟨(a % n).toNat, by omega, by omega⟩
theorem dice_rem (x : Int) : -1000000006 ≤ x.tmod 1000000007 ∧ x.tmod 1000000007 ≤ 1000000006 := by
  have e1 := Int.tmod_lt_of_pos x (b := 1000000007) (by omega)
  have e2 : (-x).tmod 1000000007 < 1000000007 := Int.tmod_lt_of_pos (-x) (by omega)
  rw [Int.neg_tmod] at e2
  omega
theorem dice_row {g : GD} {w : World} (o : g.ok w) (hk : g.ks = [true]) (hn : 0 < g.n) : ∃ bl off, g.A = some ⟨bl, off, none⟩ ∧ bl < w.heap.size ∧ ∀ i, i < g.n → w.cell? ⟨bl, off + i, none⟩ = some (.int .i64 (g.f i)) := by
  obtain ⟨bl, off, e1, e2, e3⟩ := o.cell 0 0 hn (by rw [hk]; decide)
  refine ⟨bl, off, e1, e2, fun i hi => ?_⟩
  obtain ⟨bl', off', e1', _, e3'⟩ := o.cell i 0 hi (by rw [hk]; decide)
  rw [e1] at e1'
  cases e1'
  rw [hk] at e3'
  have h0 := e3'
  unfold GD.val at h0
  rw [hk] at h0
  have e : off + (i * [true].length + 0) = off + i := by simp
  rw [e] at h0
  exact h0
theorem DiceOk.step {w w' : World} {d : Nat} {g : GD} {a : Int} (h : DiceOk w d g a) (hw : Below w.heap.size w w') : DiceOk (w'.setCell ⟨d, 1, none⟩ (.int .i64 (a + 1))) d g (a + 1) ∧ w.grownBy (w'.setCell ⟨d, 1, none⟩ (.int .i64 (a + 1))) (some d) := by
  have h' := h.below hw
  have hg := grown_set w' d 1 (.int .i64 (a + 1))
  refine ⟨h'.grown hg ((World.cell?_setCell_other _ _ _ _ (by simp)).trans h'.c0) (World.cell?_setCell_same _ _ _ h'.c1) (fun o => (World.frozen?_setCell _ _ _ _).trans (h'.f o)), ?_⟩
  exact World.grownBy.trans ⟨hw.os, hw.tape, hw.output, hw.size, fun k hk _ => hw.block k hk⟩ hg
set_option maxRecDepth 100000 in
set_option maxHeartbeats 1000000 in
theorem diceN (d : Nat) (g : GD) (a m : Int) (w : World) (h : DiceOk w d g a) (a0 : 0 ≤ a) (a1 : a ≤ 1000000) (m0 : 1 ≤ m) (m1 : m ≤ 9223372036854775807) :
    Calls Try.prog 115 #[.pointer (some ⟨d, 0, none⟩), .int .i64 m] w fun e w' => ∃ v, e = .returned (.int .i64 v) ∧ 0 ≤ v ∧ v < m ∧ DiceOk w' d g (a + 1) ∧ w.grownBy w' (some d) := by
  have hne := h.ne
  have hk := h.ks
  have hn := h.n
  have c0 := h.c0
  have c1 := h.c1
  have hf := h.f 1
  have hlt := h.lt
  have HH := Lib.hid h
  have hP : Hid (∀ x : Int, 0 ≤ x % m ∧ x % m < m) := fun x => ⟨Int.emod_nonneg x (by omega), Int.emod_lt_of_pos x (by omega)⟩
  have w1 : IntKind.wrap .i64 (a + 1) = a + 1 := IntWalk.i64_in _ ⟨by omega, by omega⟩
  rcases Nat.eq_zero_or_pos g.n with h0 | h0
  · rw [h0] at c0
    clear h hne hk hn
    go_enter Try.func115, Try.ntmps115
    go_wp2_with (go_at_call 64; ((with_reducible refine (refPick _ _ _ (by omega) (by omega)).mono ?_); rintro e w5 ⟨rfl, rfl⟩))
    go_ret
    have hs := HH.out.step (Below.refl _ _)
    exact ⟨_, rfl, (hP.out _).1, (hP.out _).2, hs.1, hs.2⟩
  · obtain ⟨bl, off, eA, hbl, hrow⟩ := dice_row h.ok hk h0
    obtain ⟨j, hj, hjm⟩ := dice_mod (n := g.n) a0 h0
    have hcj := hrow j hj
    have hdv := dice_div (n := g.n) a0 (by omega)
    have hrm := dice_rem (g.f j)
    rw [eA] at c0
    clear h hne hk hrow
    generalize g.f j = x0 at *
    generalize g.n = n at *
    generalize hqq : a.tdiv n = q at *
    generalize htt : x0.tmod 1000000007 = t0 at *
    have n0 : (n : Int) ≠ 0 := by omega
    have n1 : ¬ (n : Int) = 0 := n0
    have wq : IntKind.wrap .i64 (7919 * q) = 7919 * q := IntWalk.i64_in _ ⟨by omega, by omega⟩
    have wr : IntKind.wrap .i64 (t0 + 7919 * q) = t0 + 7919 * q := IntWalk.i64_in _ ⟨by omega, by omega⟩
    have wj : IntKind.wrap .i64 (j : Int) = j := IntWalk.i64_in _ ⟨by omega, by omega⟩
    have wq0 : IntKind.wrap .i64 q = q := IntWalk.i64_in _ ⟨by omega, by omega⟩
    have wt0 : IntKind.wrap .i64 t0 = t0 := IntWalk.i64_in _ ⟨by omega, by omega⟩
    go_enter Try.func115, Try.ntmps115
    go_upto_region 3 with fail
    go_quiet (fail)
    go_wp2_with (go_at_call 64; ((with_reducible refine (refPick _ _ _ (by omega) (by omega)).mono ?_); rintro e w5 ⟨rfl, rfl⟩))
    go_ret
    have hs := HH.out.step (w' := w.drewN nq) (by (repeat' (first | (with_reducible exact Below.refl _ _) | (with_reducible assumption) | (with_reducible refine Below.alloc ?_ ?_ _) | (with_reducible refine Below.drew ?_) | (with_reducible refine below_drewN ?_ _) | (with_reducible refine Below.setCell ?_ ?_ _) | (with_reducible refine Below.trans ?_ (Below.mono (by assumption) ?_)) | omega | (simp; omega) | (simp; done))))
    exact ⟨_, rfl, (hP.out _).1, (hP.out _).2, hs.1, hs.2⟩
set_option maxRecDepth 100000 in
set_option maxHeartbeats 1000000 in
theorem diceMost (d : Nat) (g : GD) (a : Int) (b n c : Nat) (l : List Int) (w : World) (h : DiceOk w d g a) (a0 : 0 ≤ a) (a1 : a ≤ 1000000) (hn : l.length = n) (n0 : 1 ≤ n) (n1 : n ≤ 100) (hbd : b ≠ d) (hlt : b < w.heap.size) (hc : ∀ k, k < n → w.cell? ⟨b, k, none⟩ = some (.int .i64 (l[k]?.getD 0))) :
    Calls Try.prog 116 #[.pointer (some ⟨d, 0, none⟩), .slice (some ⟨b, 0, none⟩) n c] w fun e w' => ∃ v, e = .returned (.int .i64 v) ∧ v ∈ l ∧ DiceOk w' d g (a + 1) ∧ w.grownBy w' (some d) := by
  have HH := Lib.hid h
  have HC := Lib.hid hc
  have HN := Lib.hid hn
  clear h hc hn
  go_enter Try.func116, Try.ntmps116
  go_wp2_with fail
  refine (diceN _ _ _ _ _ HH.out a0 a1 (by omega) (by omega)).mono ?_
  rintro e w5 ⟨v, rfl, hv0, hv1, hd5, hg5⟩
  obtain ⟨j, rfl⟩ := Int.eq_ofNat_of_zero_le hv0
  have hjn : j < n := by omega
  have hcj := (hg5.cell_far ⟨b, j, none⟩ hlt (by simp only [ne_eq, Option.some.injEq]; exact hbd)).trans (HC.out j hjn)
  go_wp2_with fail
  go_ret
  refine ⟨_, rfl, ?_, hd5, hg5⟩
  have hl := HN.out
  rw [List.getElem?_eq_getElem (by omega)]
  exact List.getElem_mem _
end Go.Proofs.Ytdfpenjhpemokaa.Sx
