/-
  Raw numbers, one behind the other: (*R.Dice).N and (*R.Dice).Most: contracts that tell bounds alone.
-/
import Derived.Test.YtdfpenjhpemokaaSxStd
import Derived.Test.YtdfpenjhpemokaaKit
import Derived.Deep.Cut
import Derived.Deep.CutRange
import Derived.Outline
import Derived.Deep.RegionHeld3
import Derived.BigQuiet
import Derived.Deep.QuietTactic
import Derived.Maps.AppendAt
import Derived.Deep.AppendLies
import Derived.Deep.OwnRows
import Derived.Test.YtdfpenjhpemokaaGuard
import Derived.Deep.DeepCutAuto
import Derived.Deep.MidRow
import Derived.LoopN
set_option linter.unusedVariables false
set_option linter.unusedSimpArgs false
namespace Go.Proofs.Ytdfpenjhpemokaa.Sx
open Go.RowKit
structure DiceOk (w : World) (d : Nat) (g : GD) (at' : Int) : Prop where
  c0 : w.cell? ⟨d, 0, none⟩ = some (.slice g.A g.n g.c)
  c1 : w.cell? ⟨d, 1, none⟩ = some (.int .i64 at')
  f : ∀ o, w.frozen? ⟨d, o, none⟩ = false
  lt : d < w.heap.size
  ok : g.ok w
  ne : ∀ bl off s, g.A = some ⟨bl, off, s⟩ → 0 < g.n → bl ≠ d
  ks : g.ks = [true]
  n : g.n ≤ 1000
theorem gd_grown {g : GD} {w w' : World} {d : Nat} (h : g.ok w) (hg : w.grownBy w' (some d)) (hne : ∀ bl off s, g.A = some ⟨bl, off, s⟩ → 0 < g.n → bl ≠ d) : g.ok w' :=
  ⟨h.n, fun i j hi hj => by
    obtain ⟨bl, off, e1, e2, e3⟩ := h.cell i j hi hj
    refine ⟨bl, off, e1, Nat.lt_of_lt_of_le e2 hg.size, hg.cell e3 ?_⟩
    intro hc
    exact hne bl off none e1 (by omega) (by simpa using hc), h.b64⟩
theorem DiceOk.grown {w w' : World} {d : Nat} {g : GD} {a a' : Int} (h : DiceOk w d g a) (hg : w.grownBy w' (some d)) (c0 : w'.cell? ⟨d, 0, none⟩ = some (.slice g.A g.n g.c)) (c1 : w'.cell? ⟨d, 1, none⟩ = some (.int .i64 a')) (f : ∀ o, w'.frozen? ⟨d, o, none⟩ = false) : DiceOk w' d g a' :=
  ⟨c0, c1, f, Nat.lt_of_lt_of_le h.lt hg.size, gd_grown h.ok hg h.ne, h.ne, h.ks, h.n⟩
theorem gd_below' {g : GD} {w w' : World} (h : g.ok w) (hb : Below w.heap.size w w') : g.ok w' :=
  ⟨h.n, fun i j hi hj => by
    obtain ⟨bl, off, e1, e2, e3⟩ := h.cell i j hi hj
    exact ⟨bl, off, e1, Nat.lt_of_lt_of_le e2 hb.size, (hb.cell (p := ⟨bl, _, none⟩) e2).trans e3⟩, h.b64⟩
theorem DiceOk.below {w w' : World} {d : Nat} {g : GD} {a : Int} (h : DiceOk w d g a) (hb : Below w.heap.size w w') : DiceOk w' d g a :=
  ⟨(hb.cell (p := ⟨d, 0, none⟩) h.lt).trans h.c0, (hb.cell (p := ⟨d, 1, none⟩) h.lt).trans h.c1, fun o => (hb.frozen (p := ⟨d, o, none⟩) h.lt).trans (h.f o), Nat.lt_of_lt_of_le h.lt hb.size, gd_below' h.ok hb, h.ne, h.ks, h.n⟩
theorem DiceOk.alloc {w : World} {d : Nat} {g : GD} {a : Int} (h : DiceOk w d g a) (o : Obj) : DiceOk (w.alloc o) d g a := h.below (Below.alloc (Below.refl _ _) (Nat.le_refl _) _)
theorem DiceOk.drew {w : World} {d : Nat} {g : GD} {a : Int} (h : DiceOk w d g a) : DiceOk w.drew d g a := h.below (Below.drew (Below.refl _ _))
theorem grown_set (w : World) (b i : Nat) (v : Value) : w.grownBy (w.setCell ⟨b, i, none⟩ v) (some b) :=
  ⟨rfl, rfl, rfl, by simp [World.setCell], fun k hk hne => Below.heap_setCell _ _ _ _ (fun h => hne (by simp [h]))⟩
theorem DiceOk.set {w : World} {d : Nat} {g : GD} {a : Int} (h : DiceOk w d g a) {b i : Nat} {v : Value} (hb : b ≠ d) (hr : ∀ bl off s, g.A = some ⟨bl, off, s⟩ → 0 < g.n → bl ≠ b) : DiceOk (w.setCell ⟨b, i, none⟩ v) d g a := by
  have hg := grown_set w b i v
  have hne : (some d : Option Nat) ≠ some b := fun h => hb (by simpa using h.symm)
  refine ⟨hg.cell h.c0 hne, hg.cell h.c1 hne, fun o => (World.frozen?_setCell _ _ _ _).trans (h.f o), Nat.lt_of_lt_of_le h.lt hg.size, gd_grown h.ok hg hr, h.ne, h.ks, h.n⟩
theorem dice_div {a n : Int} (h0 : 0 ≤ a) (h1 : 0 < n) : 0 ≤ a.tdiv n ∧ a.tdiv n ≤ a := by
  rw [Int.tdiv_eq_ediv_of_nonneg h0]
  exact ⟨Int.ediv_nonneg h0 (by omega), Int.ediv_le_self _ h0⟩
theorem dice_mod {a : Int} {n : Nat} (h0 : 0 ≤ a) (h1 : 0 < n) : ∃ j : Nat, j < n ∧ a.tmod n = j := by
  rw [Int.tmod_eq_emod_of_nonneg h0]
  have e1 := Int.emod_nonneg a (b := n) (by omega)
  have e2 := Int.emod_lt_of_pos a (b := n) (by omega)
  exact ⟨(a % n).toNat, by omega, by omega⟩
theorem dice_rem (x : Int) : -1000000006 ≤ x.tmod 1000000007 ∧ x.tmod 1000000007 ≤ 1000000006 := by
  have e1 := Int.tmod_lt_of_pos x (b := 1000000007) (by omega)
  have e2 : (-x).tmod 1000000007 < 1000000007 := Int.tmod_lt_of_pos (-x) (by omega)
  rw [Int.neg_tmod] at e2
  omega
theorem dice_row {g : GD} {w : World} (o : g.ok w) (hk : g.ks = [true]) (hn : 0 < g.n) : ∃ bl off, g.A = some ⟨bl, off, none⟩ ∧ bl < w.heap.size ∧ ∀ i, i < g.n → w.cell? ⟨bl, off + i, none⟩ = some (.int .i64 (g.f i)) := by
  obtain ⟨bl, off, e1, e2, e3⟩ := o.cell 0 0 hn (by rw [hk]; decide)
  refine ⟨bl, off, e1, e2, fun i hi => ?_⟩
  obtain ⟨bl', off', e1', _, e3'⟩ := o.cell i 0 hi (by rw [hk]; decide)
  rw [e1] at e1'
  cases e1'
  rw [hk] at e3'
  have h0 := e3'
  unfold GD.val at h0
  rw [hk] at h0
  have e : off + (i * [true].length + 0) = off + i := by simp
  rw [e] at h0
  exact h0
theorem DiceOk.step {w w' : World} {d : Nat} {g : GD} {a : Int} (h : DiceOk w d g a) (hw : Below w.heap.size w w') : DiceOk (w'.setCell ⟨d, 1, none⟩ (.int .i64 (a + 1))) d g (a + 1) ∧ w.grownBy (w'.setCell ⟨d, 1, none⟩ (.int .i64 (a + 1))) (some d) := by
  have h' := h.below hw
  have hg := grown_set w' d 1 (.int .i64 (a + 1))
  refine ⟨h'.grown hg ((World.cell?_setCell_other _ _ _ _ (by simp)).trans h'.c0) (World.cell?_setCell_same _ _ _ h'.c1) (fun o => (World.frozen?_setCell _ _ _ _).trans (h'.f o)), ?_⟩
  exact World.grownBy.trans ⟨hw.os, hw.tape, hw.output, hw.size, fun k hk _ => hw.block k hk⟩ hg
set_option maxRecDepth 100000 in
set_option maxHeartbeats 1000000 in
theorem diceN (d : Nat) (g : GD) (a m : Int) (w : World) (h : DiceOk w d g a) (a0 : 0 ≤ a) (a1 : a ≤ 1000000) (m0 : 1 ≤ m) (m1 : m ≤ 9223372036854775807) :
    Calls Try.prog 115 #[.pointer (some ⟨d, 0, none⟩), .int .i64 m] w fun e w' => ∃ v, e = .returned (.int .i64 v) ∧ 0 ≤ v ∧ v < m ∧ DiceOk w' d g (a + 1) ∧ w.grownBy w' (some d) := by
  have hne := h.ne
  have hk := h.ks
  have hn := h.n
  have c0 := h.c0
  have c1 := h.c1
  have hf := h.f 1
  have hlt := h.lt
  have HH := Lib.hid h
  have hP : Hid (∀ x : Int, 0 ≤ x % m ∧ x % m < m) := fun x => ⟨Int.emod_nonneg x (by omega), Int.emod_lt_of_pos x (by omega)⟩
  have w1 : IntKind.wrap .i64 (a + 1) = a + 1 := IntWalk.i64_in _ ⟨by omega, by omega⟩
  rcases Nat.eq_zero_or_pos g.n with h0 | h0
  · rw [h0] at c0
    clear h hne hk hn
    go_enter Try.func115, Try.ntmps115
    go_wp2_with (go_at_call 64; ((with_reducible refine (refPick _ _ _ (by omega) (by omega)).mono ?_); rintro e w5 ⟨rfl, rfl⟩))
    go_ret
    have hs := HH.out.step (Below.refl _ _)
    exact ⟨_, rfl, (hP.out _).1, (hP.out _).2, hs.1, hs.2⟩
  · obtain ⟨bl, off, eA, hbl, hrow⟩ := dice_row h.ok hk h0
    obtain ⟨j, hj, hjm⟩ := dice_mod (n := g.n) a0 h0
    have hcj := hrow j hj
    have hdv := dice_div (n := g.n) a0 (by omega)
    have hrm := dice_rem (g.f j)
    rw [eA] at c0
    clear h hne hk hrow
    generalize g.f j = x0 at *
    generalize g.n = n at *
    generalize hqq : a.tdiv n = q at *
    generalize htt : x0.tmod 1000000007 = t0 at *
    have n0 : (n : Int) ≠ 0 := by omega
    have n1 : ¬ (n : Int) = 0 := n0
    have wq : IntKind.wrap .i64 (7919 * q) = 7919 * q := IntWalk.i64_in _ ⟨by omega, by omega⟩
    have wr : IntKind.wrap .i64 (t0 + 7919 * q) = t0 + 7919 * q := IntWalk.i64_in _ ⟨by omega, by omega⟩
    have wj : IntKind.wrap .i64 (j : Int) = j := IntWalk.i64_in _ ⟨by omega, by omega⟩
    have wq0 : IntKind.wrap .i64 q = q := IntWalk.i64_in _ ⟨by omega, by omega⟩
    have wt0 : IntKind.wrap .i64 t0 = t0 := IntWalk.i64_in _ ⟨by omega, by omega⟩
    go_enter Try.func115, Try.ntmps115
    go_upto_region 3 with fail
    go_quiet (fail)
    go_wp2_with (go_at_call 64; ((with_reducible refine (refPick _ _ _ (by omega) (by omega)).mono ?_); rintro e w5 ⟨rfl, rfl⟩))
    go_ret
    have hs := HH.out.step (w' := w.drewN nq) (by (repeat' (first | (with_reducible exact Below.refl _ _) | (with_reducible assumption) | (with_reducible refine Below.alloc ?_ ?_ _) | (with_reducible refine Below.drew ?_) | (with_reducible refine below_drewN ?_ _) | (with_reducible refine Below.setCell ?_ ?_ _) | (with_reducible refine Below.trans ?_ (Below.mono (by assumption) ?_)) | omega | (simp; omega) | (simp; done))))
    exact ⟨_, rfl, (hP.out _).1, (hP.out _).2, hs.1, hs.2⟩
set_option maxRecDepth 100000 in
set_option maxHeartbeats 1000000 in
theorem diceMost (d : Nat) (g : GD) (a : Int) (b n c : Nat) (l : List Int) (w : World) (h : DiceOk w d g a) (a0 : 0 ≤ a) (a1 : a ≤ 1000000) (hn : l.length = n) (n0 : 1 ≤ n) (n1 : n ≤ 100) (hbd : b ≠ d) (hlt : b < w.heap.size) (hc : ∀ k, k < n → w.cell? ⟨b, k, none⟩ = some (.int .i64 (l[k]?.getD 0))) :
    Calls Try.prog 116 #[.pointer (some ⟨d, 0, none⟩), .slice (some ⟨b, 0, none⟩) n c] w fun e w' => ∃ v, e = .returned (.int .i64 v) ∧ v ∈ l ∧ DiceOk w' d g (a + 1) ∧ w.grownBy w' (some d) := by
  have HH := Lib.hid h
  have HC := Lib.hid hc
  have HN := Lib.hid hn
  clear h hc hn
  go_enter Try.func116, Try.ntmps116
  go_wp2_with fail
  refine (diceN _ _ _ _ _ HH.out a0 a1 (by omega) (by omega)).mono ?_
  rintro e w5 ⟨v, rfl, hv0, hv1, hd5, hg5⟩
  obtain ⟨j, rfl⟩ := Int.eq_ofNat_of_zero_le hv0
  have hjn : j < n := by omega
  have hcj := (hg5.cell_far ⟨b, j, none⟩ hlt (by simp only [ne_eq, Option.some.injEq]; exact hbd)).trans (HC.out j hjn)
  go_wp2_with fail
  go_ret
  refine ⟨_, rfl, ?_, hd5, hg5⟩
  have hl := HN.out
  rw [List.getElem?_eq_getElem (by omega)]
  exact List.getElem_mem _
end Go.Proofs.Ytdfpenjhpemokaa.Sx
/-
  R.axisFrom: an axis made of raw numbers: what its numbers are at least and at most.
-/
namespace Go.Proofs.Ytdfpenjhpemokaa.Sx
open Go.RowKit
theorem diceCells3 (w : World) (x y z : Int) (t : TypeId) (b : Nat) (hb : b = w.heap.size) : ∀ k, k < 3 → (w.alloc (.cells #[.int .i64 x, .int .i64 y, .int .i64 z] t)).cell? ⟨b, k, none⟩ = some (.int .i64 ([x, y, z][k]?.getD 0)) := by
  subst hb
  intro k hk
  rw [World.cell?_alloc_mark]
  match k, hk with
  | 0, _ => rfl
  | 1, _ => rfl
  | 2, _ => rfl
theorem diceCells2 (w : World) (x y : Int) (t : TypeId) (b : Nat) (hb : b = w.heap.size) : ∀ k, k < 2 → (w.alloc (.cells #[.int .i64 x, .int .i64 y] t)).cell? ⟨b, k, none⟩ = some (.int .i64 ([x, y][k]?.getD 0)) := by
  subst hb
  intro k hk
  rw [World.cell?_alloc_mark]
  match k, hk with
  | 0, _ => rfl
  | 1, _ => rfl
theorem diceCells3d (w : World) (x y z : Int) (t : TypeId) (b : Nat) (hb : b = w.heap.size) : ∀ k, k < 3 → (w.alloc (.cells #[.int .i64 x, .int .i64 y, .int .i64 z] t)).drew.cell? ⟨b, k, none⟩ = some (.int .i64 ([x, y, z][k]?.getD 0)) := diceCells3 w x y z t b hb
theorem grown_alloc {w x : World} {r : Option Nat} (h : w.grownBy x r) (o : Obj) : w.grownBy (x.alloc o) r := h.trans (World.grownBy_alloc x o r)
theorem grown_drew {w x : World} {r : Option Nat} (h : w.grownBy x r) : w.grownBy x.drew r := ⟨h.os, h.tape, h.output, h.size, h.block⟩
theorem grown_setn {w x : World} {r : Option Nat} (h : w.grownBy x r) {b : Nat} (hb : w.heap.size ≤ b) (i : Nat) (v : Value) : w.grownBy (x.setCell ⟨b, i, none⟩ v) r :=
  ⟨h.os, h.tape, h.output, by simpa [World.setCell] using h.size, fun k hk hne => (Below.heap_setCell _ _ _ _ (by show k ≠ b; omega)).trans (h.block k hk hne)⟩
theorem grown_below {w x y : World} {r : Option Nat} (h : w.grownBy x r) (hb : Below x.heap.size x y) : w.grownBy y r :=
  ⟨hb.os.trans h.os, hb.tape.trans h.tape, hb.output.trans h.output, Nat.le_trans h.size hb.size, fun k hk hne => (hb.block k (Nat.lt_of_lt_of_le hk h.size)).trans (h.block k hk hne)⟩
theorem rowIs_below {w w' : World} {b : Nat} {t : TypeId} {n : Nat} {f : Nat → Value} (h : w.rowIs b t n f) (hb : Below w.heap.size w w') : w'.rowIs b t n f := h.of_block (hb.block b h.lt)
def axv (l : List Value) : Nat → Value := fun j => l[j]?.getD (.bool false)
theorem row_put15 {w : World} {b : Nat} {t : TypeId} {n : Nat} {l l' : List Value} (h : w.rowIs b t n (axv l)) (i : Nat) (v : Value) (hl : l' = l.set i v) (hi : i < l.length) : (w.setCell ⟨b, i, none⟩ v).rowIs b t n (axv l') := by
  subst hl
  obtain ⟨c, h1, h2, h3⟩ := h
  refine (World.rowIs.set ⟨c, h1, h2, h3⟩ i v).congr fun j hj => ?_
  unfold axv
  by_cases e : j = i
  · subst e
    rw [if_pos rfl, List.getElem?_set_self hi]
    rfl
  · rw [if_neg e, List.getElem?_set_ne (fun h => e h.symm)]
theorem rowIs_other {w : World} {b b' : Nat} {t : TypeId} {n : Nat} {f : Nat → Value} (h : w.rowIs b t n f) (hne : b ≠ b') (i : Nat) (v : Value) : (w.setCell ⟨b', i, none⟩ v).rowIs b t n f := h.setOther hne v
theorem rowIs_grown {w w' : World} {b d : Nat} {t : TypeId} {n : Nat} {f : Nat → Value} (h : w.rowIs b t n f) (hg : w.grownBy w' (some d)) (hne : b ≠ d) : w'.rowIs b t n f := h.of_block (hg.block b h.lt (fun hc => hne (by simpa using hc)))
theorem row_new (w : World) (l : List Value) (t : TypeId) : (w.alloc (.cells l.toArray t)).rowIs w.heap.size t l.length (axv l) :=
  World.rowIs_alloc w l.toArray t (axv l) (fun i hi => by
    have hi' : i < l.length := by simpa using hi
    unfold axv
    rw [List.getElem?_toArray, List.getElem?_eq_getElem hi']
    rfl)
theorem DiceOk.raw {w : World} {d : Nat} {g : GD} {a : Int} (h : DiceOk w d g a) : ∀ bl off s, g.A = some ⟨bl, off, s⟩ → 0 < g.n → bl < w.heap.size := fun bl off s e hn => by
  obtain ⟨bl', off', e1, e2, _⟩ := h.ok.cell 0 0 hn (by rw [h.ks]; decide)
  rw [e] at e1
  cases e1
  exact e2
theorem cell_grown {x w' : World} {d : Nat} {a : Addr} {v : Value} (hg : x.grownBy w' (some d)) (h : x.cell? a = some v) (hne : a.block ≠ d) : w'.cell? a = some v := hg.cell h (by simpa using hne)
theorem frozen_grown {x w' : World} {d : Nat} {a : Addr} (hg : x.grownBy w' (some d)) (h : x.frozen? a = false) (hlt : a.block < x.heap.size) (hne : a.block ≠ d) : w'.frozen? a = false := (hg.frozen_far a hlt (by simpa using hne)).trans h
theorem su_mul {su x : Int} (h1 : 2 ≤ su) (h2 : su ≤ 4) (hx : 0 ≤ x) : x ≤ (su - 1) * x ∧ (su - 1) * x ≤ 3 * x := by
  have e1 := Int.mul_le_mul_of_nonneg_right (show (1 : Int) ≤ su - 1 by omega) hx
  have e2 := Int.mul_le_mul_of_nonneg_right (show su - 1 ≤ (3 : Int) by omega) hx
  rw [Int.one_mul] at e1
  exact ⟨e1, e2⟩
theorem refBrake_as (lo hi noise push most rate s bk : Int) (w : World) (hr : 1 ≤ rate) (hr2 : rate ≤ 4000) (h0 : -10000 ≤ s) (h1 : s + push ≤ 6000) (hp : 0 ≤ push) (hp2 : push ≤ 2000) (h : pbrake push rate s = bk) :
    Calls Try.prog 134 #[.agg #[.int .i64 lo, .int .i64 hi, .int .i64 noise, .int .i64 push, .int .i64 most, .int .i64 rate], .int .i64 s] w fun e w' => e = .returned (.int .i64 bk) ∧ Below w.heap.size w w' := by
  refine (refBrake lo hi noise push most rate s w hr hr2 h0 h1 hp hp2).mono ?_
  rintro e w' ⟨h2, rfl⟩
  exact ⟨by rw [h2, h], Below.alloc (Below.refl _ _) (Nat.le_refl _) _⟩
set_option maxRecDepth 100000 in
set_option maxHeartbeats 1000000 in
theorem refGuardRule (lo hi no pu su tr ra sl li co wa tu bu ps mo gr : Int) (gA gI : Value) (w : World) (b1 : 2 ≤ su) (b2 : su ≤ 4) (h1 : IntKind.wrap .i64 (pu + sl) = ps) (h2 : IntKind.wrap .i64 ((su - 1) * tr) = mo) (h3 : IntKind.wrap .i64 ((su - 1) * ra) = gr) :
    Calls Try.prog 62 #[.agg #[.int .i64 lo, .int .i64 hi, .int .i64 no, .int .i64 pu, .int .i64 su, .int .i64 tr, .int .i64 ra, .int .i64 sl, .int .i64 li, .int .i64 co, .int .i64 wa, .int .i64 tu, gA, gI, .int .i64 bu]] w fun e w' => e = .returned (.agg #[.int .i64 lo, .int .i64 hi, .int .i64 no, .int .i64 ps, .int .i64 mo, .int .i64 gr]) ∧ Below w.heap.size w w' := by
  go_enter Try.func62, Try.ntmps62
  go_wp2_with fail
  refine bodyPost_ret (v := .agg #[.int .i64 lo, .int .i64 hi, .int .i64 no, .int .i64 ps, .int .i64 mo, .int .i64 gr]) ?_ rfl ⟨rfl, by (repeat' (first | (with_reducible exact Below.refl _ _) | (with_reducible assumption) | (with_reducible refine Below.alloc ?_ ?_ _) | (with_reducible refine Below.drew ?_) | (with_reducible refine below_drewN ?_ _) | (with_reducible refine Below.setCell ?_ ?_ _) | (with_reducible refine Below.trans ?_ (Below.mono (by assumption) ?_)) | omega | (simp; omega) | (simp; done)))⟩
  simp [results, Try.results62, go_sem]
set_option maxRecDepth 100000 in
set_option maxHeartbeats 4000000 in
theorem axisFrom_ok (d : Nat) (g : GD) (a : Int) (w : World) (h : DiceOk w d g a) (a0 : 0 ≤ a) (a1 : a ≤ 900000) :
    Calls Try.prog 138 #[.pointer (some ⟨d, 0, none⟩)] w fun e w' => ∃ (lo hi no pu su tr ra sl li co wa tu bu : Int) (pA pI : Nat), e = .returned (.agg #[.int .i64 lo, .int .i64 hi, .int .i64 no, .int .i64 pu, .int .i64 su, .int .i64 tr, .int .i64 ra, .int .i64 sl, .int .i64 li, .int .i64 co, .int .i64 wa, .int .i64 tu, .slice (some ⟨pA, 0, none⟩) 2 2, .slice (some ⟨pI, 0, none⟩) 2 2, .int .i64 bu]) ∧ w.grownBy w' (some d) ∧ (∃ a', DiceOk w' d g a' ∧ 0 ≤ a' ∧ a' ≤ a + 100) ∧ 2 ≤ su ∧ su ≤ 4 ∧ 1 ≤ tr ∧ tr ≤ 1000 ∧ 1 ≤ ra ∧ ra ≤ tr ∧ 0 ≤ sl ∧ sl ≤ tr ∧ 0 ≤ pu ∧ pu ≤ 1000 ∧ 0 ≤ no ∧ no ≤ 1000 ∧ -100000000 ≤ lo ∧ lo ≤ hi ∧ hi ≤ 200000000 ∧ 1 ≤ wa ∧ wa ≤ 10 ∧ (1 ≤ co ∧ co ≤ 10 ∧ 0 ≤ li ∧ li ≤ 2040 ∧ 0 ≤ tu ∧ tu ≤ 1000 ∧ 0 ≤ bu ∧ bu ≤ 65536) := by
  have hdl := h.lt
  have hraw := h.raw
  have HD := Lib.hid h
  have hwd0 : w.heap.size ≠ d := by omega
  have hrz : ∀ bl off s, g.A = some ⟨bl, off, s⟩ → 0 < g.n → bl ≠ w.heap.size := fun bl off s e hn => by have := h.raw bl off s e hn; omega
  clear h
  go_enter Try.func138, Try.ntmps138
  go_upto_region 1 with fail
  refine wp_world (fun ω => w.grownBy ω (some d) ∧ (∃ at', DiceOk ω d g at' ∧ 0 ≤ at' ∧ at' ≤ a + 0) ∧ ω.rowIs w.heap.size 83 15 (axv [.int .i64 0, .int .i64 0, .int .i64 0, .int .i64 0, .int .i64 0, .int .i64 0, .int .i64 0, .int .i64 0, .int .i64 0, .int .i64 0, .int .i64 0, .int .i64 0, .slice none 0 0, .slice none 0 0, .int .i64 0])) ⟨by (repeat' (first | (with_reducible exact World.grownBy.refl _ _) | (with_reducible assumption) | (with_reducible refine grown_alloc ?_ _) | (with_reducible refine grown_drew ?_) | ((with_reducible refine grown_setn ?_ ?_ _ _) <;> (first | omega | skip)) | (with_reducible refine grown_below ?_ (by with_reducible assumption)) | (with_reducible refine World.grownBy.trans ?_ (by with_reducible assumption)))), ⟨_, HD.out.alloc _, by omega, by omega⟩, row_new w [.int .i64 0, .int .i64 0, .int .i64 0, .int .i64 0, .int .i64 0, .int .i64 0, .int .i64 0, .int .i64 0, .int .i64 0, .int .i64 0, .int .i64 0, .int .i64 0, .slice none 0 0, .slice none 0 0, .int .i64 0] _⟩ ?_
  clear HD
  rintro w0 ⟨hG0, ⟨at0, hD0, p0, q0⟩, hZ0⟩
  have hl0 := hZ0.lt
  go_upto_region 2 with (first | (go_at_call 115; ((with_reducible refine (diceN _ _ _ 3 _ hD0 (by omega) (by omega) (by omega) (by omega)).mono ?_); rintro e w5a ⟨va, rfl, hva, hua, hda, hga⟩; have hza := hga.size; (repeat (first | simp only [World.size_alloc] at hza | simp only [World.size_drew] at hza | simp only [World.size_setCell] at hza)))) | (go_at_call 116; ((with_reducible refine (diceMost _ _ _ _ 3 _ [4, 60, 1000] _ (hda.alloc _) (by omega) (by omega) rfl (by omega) (by omega) (by omega) (by simp) (diceCells3 _ 4 60 1000 _ _ rfl)).mono ?_); rintro e w5b ⟨vb, rfl, hyb, hdb, hgb⟩; have hvb : 4 ≤ vb ∧ vb ≤ 1000 := (by simp only [List.mem_cons, List.not_mem_nil, or_false] at hyb; omega); clear hyb; have hzb := hgb.size; (repeat (first | simp only [World.size_alloc] at hzb | simp only [World.size_drew] at hzb | simp only [World.size_setCell] at hzb)))) | (go_at_call 115; ((with_reducible refine (diceN _ _ _ vb _ hdb (by omega) (by omega) (by omega) (by omega)).mono ?_); rintro e w5c ⟨vc, rfl, hvc, huc, hdc, hgc⟩; have hzc := hgc.size; (repeat (first | simp only [World.size_alloc] at hzc | simp only [World.size_drew] at hzc | simp only [World.size_setCell] at hzc)))) | fail)
  refine wp_world (fun ω => w.grownBy ω (some d) ∧ (∃ at', DiceOk ω d g at' ∧ 0 ≤ at' ∧ at' ≤ a + 10) ∧ ω.rowIs w.heap.size 83 15 (axv [.int .i64 0, .int .i64 0, .int .i64 0, .int .i64 0, .int .i64 0, .int .i64 0, .int .i64 0, .int .i64 0, .int .i64 0, .int .i64 0, .int .i64 0, .int .i64 0, .slice none 0 0, .slice none 0 0, .int .i64 0]) ∧ ω.rowIs w5c.heap.size 83 15 (axv [.int .i64 0, .int .i64 0, .int .i64 0, .int .i64 0, .int .i64 (2 + va), .int .i64 (1 + vc), .int .i64 0, .int .i64 0, .int .i64 0, .int .i64 0, .int .i64 0, .int .i64 0, .slice none 0 0, .slice none 0 0, .int .i64 0])) ⟨by (repeat' (first | (with_reducible exact World.grownBy.refl _ _) | (with_reducible assumption) | (with_reducible refine grown_alloc ?_ _) | (with_reducible refine grown_drew ?_) | ((with_reducible refine grown_setn ?_ ?_ _ _) <;> (first | omega | skip)) | (with_reducible refine grown_below ?_ (by with_reducible assumption)) | (with_reducible refine World.grownBy.trans ?_ (by with_reducible assumption)))), ⟨_, hdc.alloc _, by omega, by omega⟩, by (repeat' (first | (with_reducible assumption) | (with_reducible refine World.rowIs.alloc ?_ _) | (with_reducible refine World.rowIs.drew ?_) | (with_reducible refine row_put15 ?_ _ _ rfl) | ((with_reducible refine rowIs_other ?_ ?_ _ _) <;> (first | omega | (with_reducible assumption) | skip)) | (with_reducible refine rowIs_below ?_ (by with_reducible assumption)) | ((with_reducible refine rowIs_grown ?_ (by with_reducible assumption) ?_) <;> (first | omega | (with_reducible assumption) | skip)))), row_new _ [.int .i64 0, .int .i64 0, .int .i64 0, .int .i64 0, .int .i64 (2 + va), .int .i64 (1 + vc), .int .i64 0, .int .i64 0, .int .i64 0, .int .i64 0, .int .i64 0, .int .i64 0, .slice none 0 0, .slice none 0 0, .int .i64 0] _⟩ ?_
  clear hG0 hD0 hZ0 hda hdb hdc hga hgb hgc p0 q0
  rintro w1 ⟨hG1, ⟨at1, hD1, p1, q1⟩, hZ1, hr1⟩
  have hl1 := hZ1.lt
  have hab : w.heap.size < w5c.heap.size := by omega
  clear hza hzb hzc hl0
  generalize w5c.heap.size = ab at *
  have hra : ∀ bl off s, g.A = some ⟨bl, off, s⟩ → 0 < g.n → bl ≠ ab := fun bl off s e hn => by have := hraw bl off s e hn; omega
  have hadb : ab ≠ d := by omega
  have habw : w.heap.size ≤ ab := by omega
  have hwab : w.heap.size ≠ ab := by omega
  obtain ⟨su, hsu⟩ : ∃ su, su = 2 + va := ⟨_, rfl⟩
  obtain ⟨tr, htr⟩ : ∃ tr, tr = 1 + vc := ⟨_, rfl⟩
  rw [← hsu, ← htr] at hr1
  have su1 : 2 ≤ su := by omega
  have su2 : su ≤ 4 := by omega
  have tr1 : 1 ≤ tr := by omega
  have tr2 : tr ≤ 1000 := by omega
  clear hva hua hvb hvc huc hsu htr
  have k5 : w1.cell? ⟨ab, 5, none⟩ = some (.int .i64 tr) := hr1.cell (by decide)
  have s6 : w1.cell? ⟨ab, 6, none⟩ = some (.int .i64 0) := hr1.cell (by decide)
  have f6 := hr1.frozen 6
  have hab1 := hr1.lt
  go_upto_region 3 with (first | (go_at_call 115; ((with_reducible refine (diceN _ _ _ tr _ hD1 (by omega) (by omega) (by omega) (by omega)).mono ?_); rintro e w5a ⟨va, rfl, hva, hua, hda, hga⟩; have s6a := cell_grown hga s6 hadb; have f6a := (hga.frozen_far ⟨ab, 6, none⟩ hab1 (by simpa using hadb)).trans f6; have hza := hga.size; (repeat (first | simp only [World.size_alloc] at hza | simp only [World.size_drew] at hza | simp only [World.size_setCell] at hza)))) | fail)
  refine wp_world (fun ω => w.grownBy ω (some d) ∧ (∃ at', DiceOk ω d g at' ∧ 0 ≤ at' ∧ at' ≤ a + 11) ∧ ω.rowIs w.heap.size 83 15 (axv [.int .i64 0, .int .i64 0, .int .i64 0, .int .i64 0, .int .i64 0, .int .i64 0, .int .i64 0, .int .i64 0, .int .i64 0, .int .i64 0, .int .i64 0, .int .i64 0, .slice none 0 0, .slice none 0 0, .int .i64 0]) ∧ ω.rowIs ab 83 15 (axv [.int .i64 0, .int .i64 0, .int .i64 0, .int .i64 0, .int .i64 su, .int .i64 tr, .int .i64 (1 + va), .int .i64 0, .int .i64 0, .int .i64 0, .int .i64 0, .int .i64 0, .slice none 0 0, .slice none 0 0, .int .i64 0])) ⟨by (repeat' (first | (with_reducible exact World.grownBy.refl _ _) | (with_reducible assumption) | (with_reducible refine grown_alloc ?_ _) | (with_reducible refine grown_drew ?_) | ((with_reducible refine grown_setn ?_ ?_ _ _) <;> (first | omega | skip)) | (with_reducible refine grown_below ?_ (by with_reducible assumption)) | (with_reducible refine World.grownBy.trans ?_ (by with_reducible assumption)))), ⟨_, hda.set hadb hra, by omega, by omega⟩, by (repeat' (first | (with_reducible assumption) | (with_reducible refine World.rowIs.alloc ?_ _) | (with_reducible refine World.rowIs.drew ?_) | (with_reducible refine row_put15 ?_ _ _ rfl) | ((with_reducible refine rowIs_other ?_ ?_ _ _) <;> (first | omega | (with_reducible assumption) | skip)) | (with_reducible refine rowIs_below ?_ (by with_reducible assumption)) | ((with_reducible refine rowIs_grown ?_ (by with_reducible assumption) ?_) <;> (first | omega | (with_reducible assumption) | skip)))), row_put15 (rowIs_grown (hr1) hga hadb) 6 _ rfl (show 6 < 15 by decide)⟩ ?_
  clear hG1 hD1 hZ1 hr1 hda hga hza p1 q1 k5 s6 f6 s6a f6a hab1 hl1
  rintro w2 ⟨hG2, ⟨at2, hD2, p2, q2⟩, hZ2, hr2⟩
  have hl2 := hZ2.lt
  have ha2 := hr2.lt
  obtain ⟨ra, raq⟩ : ∃ x, x = 1 + va := ⟨_, rfl⟩
  rw [← raq] at hr2
  have ra1 : 1 ≤ ra := by omega
  have ra2 : ra ≤ tr := by omega
  clear raq hva hua
  have k4 : w2.cell? ⟨ab, 4, none⟩ = some (.int .i64 su) := hr2.cell (by decide)
  have k5 : w2.cell? ⟨ab, 5, none⟩ = some (.int .i64 tr) := hr2.cell (by decide)
  have k6 : w2.cell? ⟨ab, 6, none⟩ = some (.int .i64 ra) := hr2.cell (by decide)
  have M1 := su_mul su1 su2 (show 0 ≤ tr by omega)
  have M2 := su_mul su1 su2 (show 0 ≤ ra by omega)
  obtain ⟨mo, hmo⟩ : ∃ x, x = (su - 1) * tr := ⟨_, rfl⟩
  obtain ⟨gr, hgr⟩ : ∃ x, x = (su - 1) * ra := ⟨_, rfl⟩
  rw [← hmo] at M1
  rw [← hgr] at M2
  have hm1 : IntKind.wrap .i64 ((su - 1) * tr) = mo := by rw [← hmo]; exact IntWalk.i64_in _ ⟨by omega, by omega⟩
  have hm2 : IntKind.wrap .i64 ((su - 1) * ra) = gr := by rw [← hgr]; exact IntWalk.i64_in _ ⟨by omega, by omega⟩
  have HMO := Lib.hid hmo
  have HGR := Lib.hid hgr
  clear hmo hgr
  go_upto_region 5 with fail
  generalize hcan : (if (1000 : Int) < gr then (1000 : Int) else gr) = can at *
  have can1 : 1 ≤ can := by rw [← hcan]; split <;> omega
  have can2 : can ≤ 1000 := by rw [← hcan]; split <;> omega
  have can3 : can ≤ gr := by rw [← hcan]; split <;> omega
  clear hcan
  have s7 : w2.cell? ⟨ab, 7, none⟩ = some (.int .i64 0) := hr2.cell (by decide)
  have f7 := hr2.frozen 7
  have hab2 := hr2.lt
  go_region_held3 (fun ω => ω.cell? ⟨ab, 5, none⟩ = some (.int .i64 tr)) (repeat' (first | (with_reducible assumption) | (with_reducible refine cell_alloc_keep ?_) | (with_reducible refine cell_drew_keep ?_) | (with_reducible refine cell_drewN_keep ?_) | (with_reducible refine cell_grown (by with_reducible assumption) ?_ hadb) | ((with_reducible refine cell_set_off ?_ ?_) <;> (first | (with_reducible assumption) | (focus (simp; done)) | omega | skip)))) (first | (go_at_call 116; ((with_reducible refine (diceMost _ _ _ _ 3 _ [1, 10, 1000] _ (hD2.alloc _).drew (by omega) (by omega) rfl (by omega) (by omega) (by omega) (by simp only [World.size_drew, World.size_alloc]; omega) (diceCells3d _ 1 10 1000 _ _ rfl)).mono ?_); rintro e w5a ⟨va, rfl, hya, hda, hga⟩; have hva : 1 ≤ va ∧ va ≤ 1000 := (by simp only [List.mem_cons, List.not_mem_nil, or_false] at hya; omega); clear hya; obtain ⟨m3, hm3⟩ : ∃ x : Int, x = (if va < (if can < tr then can else tr) then va else (if can < tr then can else tr)) := ⟨_, rfl⟩; have hb3 : 1 ≤ m3 ∧ m3 ≤ can ∧ m3 ≤ tr := (by rw [hm3]; (repeat' split) <;> omega); have hq3 : (if va < (if can < tr then can else tr) then va else (if can < tr then can else tr)) = m3 := hm3.symm; have hw3 : IntKind.wrap .i64 (m3 + 1) = m3 + 1 := IntWalk.i64_in _ ⟨by omega, by omega⟩; clear hm3; have hza := hga.size; (repeat (first | simp only [World.size_alloc] at hza | simp only [World.size_drew] at hza | simp only [World.size_setCell] at hza)))) | (go_at_call 115; ((with_reducible refine (diceN _ _ _ (m3 + 1) _ hda (by omega) (by omega) (by omega) (by omega)).mono ?_); rintro e w5b ⟨vb, rfl, hvb, hub, hdb, hgb⟩; have s7b := cell_grown hgb (cell_grown hga (cell_drew_keep (cell_alloc_keep s7)) hadb) hadb; have f7b : w5b.frozen? ⟨ab, 7, none⟩ = false := frozen_grown hgb (frozen_grown hga (frozen_drew_keep (frozen_alloc_keep ha2 f7)) (by simp only [World.size_drew, World.size_alloc]; omega) hadb) (by show ab < _; omega) hadb; have hzb := hgb.size; (repeat (first | simp only [World.size_alloc] at hzb | simp only [World.size_drew] at hzb | simp only [World.size_setCell] at hzb)))) | fail)
  refine exit_world (fun ω => w.grownBy ω (some d) ∧ (∃ at', DiceOk ω d g at' ∧ 0 ≤ at' ∧ at' ≤ a + 13) ∧ ω.rowIs w.heap.size 83 15 (axv [.int .i64 0, .int .i64 0, .int .i64 0, .int .i64 0, .int .i64 0, .int .i64 0, .int .i64 0, .int .i64 0, .int .i64 0, .int .i64 0, .int .i64 0, .int .i64 0, .slice none 0 0, .slice none 0 0, .int .i64 0]) ∧ ω.rowIs ab 83 15 (axv [.int .i64 0, .int .i64 0, .int .i64 0, .int .i64 0, .int .i64 su, .int .i64 tr, .int .i64 ra, .int .i64 vb, .int .i64 0, .int .i64 0, .int .i64 0, .int .i64 0, .slice none 0 0, .slice none 0 0, .int .i64 0])) ⟨by (repeat' (first | (with_reducible exact World.grownBy.refl _ _) | (with_reducible assumption) | (with_reducible refine grown_alloc ?_ _) | (with_reducible refine grown_drew ?_) | ((with_reducible refine grown_setn ?_ ?_ _ _) <;> (first | omega | skip)) | (with_reducible refine grown_below ?_ (by with_reducible assumption)) | (with_reducible refine World.grownBy.trans ?_ (by with_reducible assumption)))), ⟨_, hdb.set hadb hra, by omega, by omega⟩, by (repeat' (first | (with_reducible assumption) | (with_reducible refine World.rowIs.alloc ?_ _) | (with_reducible refine World.rowIs.drew ?_) | (with_reducible refine row_put15 ?_ _ _ rfl) | ((with_reducible refine rowIs_other ?_ ?_ _ _) <;> (first | omega | (with_reducible assumption) | skip)) | (with_reducible refine rowIs_below ?_ (by with_reducible assumption)) | ((with_reducible refine rowIs_grown ?_ (by with_reducible assumption) ?_) <;> (first | omega | (with_reducible assumption) | skip)))), row_put15 (l := [.int .i64 0, .int .i64 0, .int .i64 0, .int .i64 0, .int .i64 su, .int .i64 tr, .int .i64 ra, .int .i64 0, .int .i64 0, .int .i64 0, .int .i64 0, .int .i64 0, .slice none 0 0, .slice none 0 0, .int .i64 0]) (by (repeat' (first | (with_reducible assumption) | (with_reducible refine World.rowIs.alloc ?_ _) | (with_reducible refine World.rowIs.drew ?_) | (with_reducible refine row_put15 ?_ _ _ rfl) | ((with_reducible refine rowIs_other ?_ ?_ _ _) <;> (first | omega | (with_reducible assumption) | skip)) | (with_reducible refine rowIs_below ?_ (by with_reducible assumption)) | ((with_reducible refine rowIs_grown ?_ (by with_reducible assumption) ?_) <;> (first | omega | (with_reducible assumption) | skip))))) 7 _ rfl (show 7 < 15 by decide)⟩ ?_
  clear hG2 hD2 hZ2 hr2 hda hga hza hdb hgb hzb p2 q2 k4 k5 k6 s7 f7 s7b f7b hab2 hl2 ha2 hva hq3 hw3
  rintro w3 ⟨hG3, ⟨at3, hD3, p3, q3⟩, hZ3, hr3⟩
  have hl3 := hZ3.lt
  have ha3 := hr3.lt
  obtain ⟨sl, slq⟩ : ∃ x, x = vb := ⟨_, rfl⟩
  rw [← slq] at hr3
  have sl1 : 0 ≤ sl := by omega
  have sl2 : sl ≤ can := by omega
  have sl3 : sl ≤ tr := by omega
  clear slq hvb hub hb3
  have k7 : w3.cell? ⟨ab, 7, none⟩ = some (.int .i64 sl) := hr3.cell (by decide)
  have s3 : w3.cell? ⟨ab, 3, none⟩ = some (.int .i64 0) := hr3.cell (by decide)
  have f3 := hr3.frozen 3
  have hab3 := hr3.lt
  go_upto_region 7 with (first | (go_at_call 115; ((with_reducible refine (diceN _ _ _ (can - sl + 1) _ hD3 (by omega) (by omega) (by omega) (by omega)).mono ?_); rintro e w5a ⟨va, rfl, hva, hua, hda, hga⟩; have s3a := cell_grown hga (s3) hadb; have f3a : w5a.frozen? ⟨ab, 3, none⟩ = false := frozen_grown hga (f3) (by show ab < _; first | omega | (simp only [World.size_drew, World.size_alloc]; omega)) hadb; have hza := hga.size; (repeat (first | simp only [World.size_alloc] at hza | simp only [World.size_drew] at hza | simp only [World.size_setCell] at hza)))) | fail)
  refine wp_world (fun ω => w.grownBy ω (some d) ∧ (∃ at', DiceOk ω d g at' ∧ 0 ≤ at' ∧ at' ≤ a + 14) ∧ ω.rowIs w.heap.size 83 15 (axv [.int .i64 0, .int .i64 0, .int .i64 0, .int .i64 0, .int .i64 0, .int .i64 0, .int .i64 0, .int .i64 0, .int .i64 0, .int .i64 0, .int .i64 0, .int .i64 0, .slice none 0 0, .slice none 0 0, .int .i64 0]) ∧ ω.rowIs ab 83 15 (axv [.int .i64 0, .int .i64 0, .int .i64 0, .int .i64 va, .int .i64 su, .int .i64 tr, .int .i64 ra, .int .i64 sl, .int .i64 0, .int .i64 0, .int .i64 0, .int .i64 0, .slice none 0 0, .slice none 0 0, .int .i64 0])) ⟨by (repeat' (first | (with_reducible exact World.grownBy.refl _ _) | (with_reducible assumption) | (with_reducible refine grown_alloc ?_ _) | (with_reducible refine grown_drew ?_) | ((with_reducible refine grown_setn ?_ ?_ _ _) <;> (first | omega | skip)) | (with_reducible refine grown_below ?_ (by with_reducible assumption)) | (with_reducible refine World.grownBy.trans ?_ (by with_reducible assumption)))), ⟨_, hda.set hadb hra, by omega, by omega⟩, by (repeat' (first | (with_reducible assumption) | (with_reducible refine World.rowIs.alloc ?_ _) | (with_reducible refine World.rowIs.drew ?_) | (with_reducible refine row_put15 ?_ _ _ rfl) | ((with_reducible refine rowIs_other ?_ ?_ _ _) <;> (first | omega | (with_reducible assumption) | skip)) | (with_reducible refine rowIs_below ?_ (by with_reducible assumption)) | ((with_reducible refine rowIs_grown ?_ (by with_reducible assumption) ?_) <;> (first | omega | (with_reducible assumption) | skip)))), row_put15 (l := [.int .i64 0, .int .i64 0, .int .i64 0, .int .i64 0, .int .i64 su, .int .i64 tr, .int .i64 ra, .int .i64 sl, .int .i64 0, .int .i64 0, .int .i64 0, .int .i64 0, .slice none 0 0, .slice none 0 0, .int .i64 0]) (by (repeat' (first | (with_reducible assumption) | (with_reducible refine World.rowIs.alloc ?_ _) | (with_reducible refine World.rowIs.drew ?_) | (with_reducible refine row_put15 ?_ _ _ rfl) | ((with_reducible refine rowIs_other ?_ ?_ _ _) <;> (first | omega | (with_reducible assumption) | skip)) | (with_reducible refine rowIs_below ?_ (by with_reducible assumption)) | ((with_reducible refine rowIs_grown ?_ (by with_reducible assumption) ?_) <;> (first | omega | (with_reducible assumption) | skip))))) 3 _ rfl (show 3 < 15 by decide)⟩ ?_
  clear hG3 hD3 hZ3 hr3 hda hga hza p3 q3 k7 s3 f3 s3a f3a hab3 hl3 ha3
  rintro w4 ⟨hG4, ⟨at4, hD4, p4, q4⟩, hZ4, hr4⟩
  have hl4 := hZ4.lt
  have ha4 := hr4.lt
  obtain ⟨pu, puq⟩ : ∃ x, x = va := ⟨_, rfl⟩
  rw [← puq] at hr4
  have pu1 : 0 ≤ pu := by omega
  have pu2 : pu + sl ≤ can := by omega
  clear puq hva hua
  have s2 : w4.cell? ⟨ab, 2, none⟩ = some (.int .i64 0) := hr4.cell (by decide)
  have f2 := hr4.frozen 2
  have hab4 := hr4.lt
  go_upto_region 8 with (first | (go_at_call 116; ((with_reducible refine (diceMost _ _ _ _ 3 _ [2, 10, 1001] _ (hD4.alloc _) (by omega) (by omega) rfl (by omega) (by omega) (by omega) (by simp) (diceCells3 _ 2 10 1001 _ _ rfl)).mono ?_); rintro e w5a ⟨va, rfl, hya, hda, hga⟩; have hva : 2 ≤ va ∧ va ≤ 1001 := (by simp only [List.mem_cons, List.not_mem_nil, or_false] at hya; omega); clear hya; have hza := hga.size; (repeat (first | simp only [World.size_alloc] at hza | simp only [World.size_drew] at hza | simp only [World.size_setCell] at hza)))) | (go_at_call 115; ((with_reducible refine (diceN _ _ _ va _ hda (by omega) (by omega) (by omega) (by omega)).mono ?_); rintro e w5b ⟨vb, rfl, hvb, hub, hdb, hgb⟩; have s2b := cell_grown hgb (cell_grown hga (cell_alloc_keep (s2)) hadb) hadb; have f2b : w5b.frozen? ⟨ab, 2, none⟩ = false := frozen_grown hgb (frozen_grown hga (frozen_alloc_keep (by first | omega | (simp only [World.size_drew, World.size_alloc]; omega)) (f2)) (by show ab < _; first | omega | (simp only [World.size_drew, World.size_alloc]; omega)) hadb) (by show ab < _; first | omega | (simp only [World.size_drew, World.size_alloc]; omega)) hadb; have hzb := hgb.size; (repeat (first | simp only [World.size_alloc] at hzb | simp only [World.size_drew] at hzb | simp only [World.size_setCell] at hzb)))) | fail)
  refine wp_world (fun ω => w.grownBy ω (some d) ∧ (∃ at', DiceOk ω d g at' ∧ 0 ≤ at' ∧ at' ≤ a + 16) ∧ ω.rowIs w.heap.size 83 15 (axv [.int .i64 0, .int .i64 0, .int .i64 0, .int .i64 0, .int .i64 0, .int .i64 0, .int .i64 0, .int .i64 0, .int .i64 0, .int .i64 0, .int .i64 0, .int .i64 0, .slice none 0 0, .slice none 0 0, .int .i64 0]) ∧ ω.rowIs ab 83 15 (axv [.int .i64 0, .int .i64 0, .int .i64 vb, .int .i64 pu, .int .i64 su, .int .i64 tr, .int .i64 ra, .int .i64 sl, .int .i64 0, .int .i64 0, .int .i64 0, .int .i64 0, .slice none 0 0, .slice none 0 0, .int .i64 0])) ⟨by (repeat' (first | (with_reducible exact World.grownBy.refl _ _) | (with_reducible assumption) | (with_reducible refine grown_alloc ?_ _) | (with_reducible refine grown_drew ?_) | ((with_reducible refine grown_setn ?_ ?_ _ _) <;> (first | omega | skip)) | (with_reducible refine grown_below ?_ (by with_reducible assumption)) | (with_reducible refine World.grownBy.trans ?_ (by with_reducible assumption)))), ⟨_, hdb.set hadb hra, by omega, by omega⟩, by (repeat' (first | (with_reducible assumption) | (with_reducible refine World.rowIs.alloc ?_ _) | (with_reducible refine World.rowIs.drew ?_) | (with_reducible refine row_put15 ?_ _ _ rfl) | ((with_reducible refine rowIs_other ?_ ?_ _ _) <;> (first | omega | (with_reducible assumption) | skip)) | (with_reducible refine rowIs_below ?_ (by with_reducible assumption)) | ((with_reducible refine rowIs_grown ?_ (by with_reducible assumption) ?_) <;> (first | omega | (with_reducible assumption) | skip)))), row_put15 (l := [.int .i64 0, .int .i64 0, .int .i64 0, .int .i64 pu, .int .i64 su, .int .i64 tr, .int .i64 ra, .int .i64 sl, .int .i64 0, .int .i64 0, .int .i64 0, .int .i64 0, .slice none 0 0, .slice none 0 0, .int .i64 0]) (by (repeat' (first | (with_reducible assumption) | (with_reducible refine World.rowIs.alloc ?_ _) | (with_reducible refine World.rowIs.drew ?_) | (with_reducible refine row_put15 ?_ _ _ rfl) | ((with_reducible refine rowIs_other ?_ ?_ _ _) <;> (first | omega | (with_reducible assumption) | skip)) | (with_reducible refine rowIs_below ?_ (by with_reducible assumption)) | ((with_reducible refine rowIs_grown ?_ (by with_reducible assumption) ?_) <;> (first | omega | (with_reducible assumption) | skip))))) 2 _ rfl (show 2 < 15 by decide)⟩ ?_
  clear hG4 hD4 hZ4 hr4 hda hga hza hdb hgb hzb p4 q4 s2 f2 s2b f2b hab4 hl4 ha4
  rintro w5 ⟨hG5, ⟨at5, hD5, p5, q5⟩, hZ5, hr5⟩
  have hl5 := hZ5.lt
  have ha5 := hr5.lt
  obtain ⟨no, noq⟩ : ∃ x, x = vb := ⟨_, rfl⟩
  rw [← noq] at hr5
  have no1 : 0 ≤ no := by omega
  have no2 : no ≤ 1000 := by omega
  clear noq hva hvb hub
  have k2 : w5.cell? ⟨ab, 2, none⟩ = some (.int .i64 no) := hr5.cell (by decide)
  have s8 : w5.cell? ⟨ab, 8, none⟩ = some (.int .i64 0) := hr5.cell (by decide)
  have f8 := hr5.frozen 8
  have hab5 := hr5.lt
  have hn2 : IntKind.wrap .i64 (2 * no) = 2 * no := IntWalk.i64_in _ ⟨by omega, by omega⟩
  go_region_held3 (fun ω => ω.cell? ⟨ab, 2, none⟩ = some (.int .i64 no)) (repeat' (first | (with_reducible assumption) | (with_reducible refine cell_alloc_keep ?_) | (with_reducible refine cell_drew_keep ?_) | (with_reducible refine cell_drewN_keep ?_) | (with_reducible refine cell_grown (by with_reducible assumption) ?_ hadb) | ((with_reducible refine cell_set_off ?_ ?_) <;> (first | (with_reducible assumption) | (focus (simp; done)) | omega | skip)))) (first | (go_at_call 115; ((with_reducible refine (diceN _ _ _ 40 _ hD5.drew (by omega) (by omega) (by omega) (by omega)).mono ?_); rintro e w5a ⟨va, rfl, hva, hua, hda, hga⟩; have hwl : IntKind.wrap .i64 (2 * no + va) = 2 * no + va := IntWalk.i64_in _ ⟨by omega, by omega⟩; have s8a := cell_grown hga (cell_drew_keep (s8)) hadb; have f8a : w5a.frozen? ⟨ab, 8, none⟩ = false := frozen_grown hga (frozen_drew_keep (f8)) (by show ab < _; first | omega | (simp only [World.size_drew, World.size_alloc]; omega)) hadb; have hza := hga.size; (repeat (first | simp only [World.size_alloc] at hza | simp only [World.size_drew] at hza | simp only [World.size_setCell] at hza)))) | fail)
  refine exit_world (fun ω => w.grownBy ω (some d) ∧ (∃ at', DiceOk ω d g at' ∧ 0 ≤ at' ∧ at' ≤ a + 17) ∧ ω.rowIs w.heap.size 83 15 (axv [.int .i64 0, .int .i64 0, .int .i64 0, .int .i64 0, .int .i64 0, .int .i64 0, .int .i64 0, .int .i64 0, .int .i64 0, .int .i64 0, .int .i64 0, .int .i64 0, .slice none 0 0, .slice none 0 0, .int .i64 0]) ∧ ω.rowIs ab 83 15 (axv [.int .i64 0, .int .i64 0, .int .i64 no, .int .i64 pu, .int .i64 su, .int .i64 tr, .int .i64 ra, .int .i64 sl, .int .i64 (2 * no + va), .int .i64 0, .int .i64 0, .int .i64 0, .slice none 0 0, .slice none 0 0, .int .i64 0])) ⟨by (repeat' (first | (with_reducible exact World.grownBy.refl _ _) | (with_reducible assumption) | (with_reducible refine grown_alloc ?_ _) | (with_reducible refine grown_drew ?_) | ((with_reducible refine grown_setn ?_ ?_ _ _) <;> (first | omega | skip)) | (with_reducible refine grown_below ?_ (by with_reducible assumption)) | (with_reducible refine World.grownBy.trans ?_ (by with_reducible assumption)))), ⟨_, hda.set hadb hra, by omega, by omega⟩, by (repeat' (first | (with_reducible assumption) | (with_reducible refine World.rowIs.alloc ?_ _) | (with_reducible refine World.rowIs.drew ?_) | (with_reducible refine row_put15 ?_ _ _ rfl) | ((with_reducible refine rowIs_other ?_ ?_ _ _) <;> (first | omega | (with_reducible assumption) | skip)) | (with_reducible refine rowIs_below ?_ (by with_reducible assumption)) | ((with_reducible refine rowIs_grown ?_ (by with_reducible assumption) ?_) <;> (first | omega | (with_reducible assumption) | skip)))), row_put15 (l := [.int .i64 0, .int .i64 0, .int .i64 no, .int .i64 pu, .int .i64 su, .int .i64 tr, .int .i64 ra, .int .i64 sl, .int .i64 0, .int .i64 0, .int .i64 0, .int .i64 0, .slice none 0 0, .slice none 0 0, .int .i64 0]) (by (repeat' (first | (with_reducible assumption) | (with_reducible refine World.rowIs.alloc ?_ _) | (with_reducible refine World.rowIs.drew ?_) | (with_reducible refine row_put15 ?_ _ _ rfl) | ((with_reducible refine rowIs_other ?_ ?_ _ _) <;> (first | omega | (with_reducible assumption) | skip)) | (with_reducible refine rowIs_below ?_ (by with_reducible assumption)) | ((with_reducible refine rowIs_grown ?_ (by with_reducible assumption) ?_) <;> (first | omega | (with_reducible assumption) | skip))))) 8 _ rfl (show 8 < 15 by decide)⟩ ?_
  clear hG5 hD5 hZ5 hr5 hda hga hza p5 q5 k2 s8 f8 s8a f8a hab5 hl5 ha5 hwl hn2
  rintro w6 ⟨hG6, ⟨at6, hD6, p6, q6⟩, hZ6, hr6⟩
  have hl6 := hZ6.lt
  have ha6 := hr6.lt
  obtain ⟨li, liq⟩ : ∃ x, x = 2 * no + va := ⟨_, rfl⟩
  rw [← liq] at hr6
  have li1 : 0 ≤ li := by omega
  have li2 : li ≤ 2040 := by omega
  clear liq hva hua
  have s9 : w6.cell? ⟨ab, 9, none⟩ = some (.int .i64 0) := hr6.cell (by decide)
  have f9 := hr6.frozen 9
  have hab6 := hr6.lt
  have s10 : w6.cell? ⟨ab, 10, none⟩ = some (.int .i64 0) := hr6.cell (by decide)
  have f10 := hr6.frozen 10
  go_upto_region 10 with (first | (go_at_call 115; ((with_reducible refine (diceN _ _ _ 10 _ hD6 (by omega) (by omega) (by omega) (by omega)).mono ?_); rintro e w5a ⟨va, rfl, hva, hua, hda, hga⟩; have hza := hga.size; (repeat (first | simp only [World.size_alloc] at hza | simp only [World.size_drew] at hza | simp only [World.size_setCell] at hza)))) | (go_at_call 115; ((with_reducible refine (diceN _ _ _ 10 _ hda (by omega) (by omega) (by omega) (by omega)).mono ?_); rintro e w5b ⟨vb, rfl, hvb, hub, hdb, hgb⟩; have s9b := cell_grown hgb (cell_grown hga (s9) hadb) hadb; have f9b : w5b.frozen? ⟨ab, 9, none⟩ = false := frozen_grown hgb (frozen_grown hga (f9) (by show ab < _; first | omega | (simp only [World.size_drew, World.size_alloc]; omega)) hadb) (by show ab < _; first | omega | (simp only [World.size_drew, World.size_alloc]; omega)) hadb; have s10b := cell_grown hgb (cell_grown hga (s10) hadb) hadb; have f10b : w5b.frozen? ⟨ab, 10, none⟩ = false := frozen_grown hgb (frozen_grown hga (f10) (by show ab < _; first | omega | (simp only [World.size_drew, World.size_alloc]; omega)) hadb) (by show ab < _; first | omega | (simp only [World.size_drew, World.size_alloc]; omega)) hadb; have hzb := hgb.size; (repeat (first | simp only [World.size_alloc] at hzb | simp only [World.size_drew] at hzb | simp only [World.size_setCell] at hzb)))) | fail)
  refine wp_world (fun ω => w.grownBy ω (some d) ∧ (∃ at', DiceOk ω d g at' ∧ 0 ≤ at' ∧ at' ≤ a + 19) ∧ ω.rowIs w.heap.size 83 15 (axv [.int .i64 0, .int .i64 0, .int .i64 0, .int .i64 0, .int .i64 0, .int .i64 0, .int .i64 0, .int .i64 0, .int .i64 0, .int .i64 0, .int .i64 0, .int .i64 0, .slice none 0 0, .slice none 0 0, .int .i64 0]) ∧ ω.rowIs ab 83 15 (axv [.int .i64 0, .int .i64 0, .int .i64 no, .int .i64 pu, .int .i64 su, .int .i64 tr, .int .i64 ra, .int .i64 sl, .int .i64 li, .int .i64 (1 + va), .int .i64 (1 + vb), .int .i64 0, .slice none 0 0, .slice none 0 0, .int .i64 0])) ⟨by (repeat' (first | (with_reducible exact World.grownBy.refl _ _) | (with_reducible assumption) | (with_reducible refine grown_alloc ?_ _) | (with_reducible refine grown_drew ?_) | ((with_reducible refine grown_setn ?_ ?_ _ _) <;> (first | omega | skip)) | (with_reducible refine grown_below ?_ (by with_reducible assumption)) | (with_reducible refine World.grownBy.trans ?_ (by with_reducible assumption)))), ⟨_, (hdb.set hadb hra).set hadb hra, by omega, by omega⟩, by (repeat' (first | (with_reducible assumption) | (with_reducible refine World.rowIs.alloc ?_ _) | (with_reducible refine World.rowIs.drew ?_) | (with_reducible refine row_put15 ?_ _ _ rfl) | ((with_reducible refine rowIs_other ?_ ?_ _ _) <;> (first | omega | (with_reducible assumption) | skip)) | (with_reducible refine rowIs_below ?_ (by with_reducible assumption)) | ((with_reducible refine rowIs_grown ?_ (by with_reducible assumption) ?_) <;> (first | omega | (with_reducible assumption) | skip)))), row_put15 (l := [.int .i64 0, .int .i64 0, .int .i64 no, .int .i64 pu, .int .i64 su, .int .i64 tr, .int .i64 ra, .int .i64 sl, .int .i64 li, .int .i64 (1 + va), .int .i64 0, .int .i64 0, .slice none 0 0, .slice none 0 0, .int .i64 0]) (row_put15 (l := [.int .i64 0, .int .i64 0, .int .i64 no, .int .i64 pu, .int .i64 su, .int .i64 tr, .int .i64 ra, .int .i64 sl, .int .i64 li, .int .i64 0, .int .i64 0, .int .i64 0, .slice none 0 0, .slice none 0 0, .int .i64 0]) (by (repeat' (first | (with_reducible assumption) | (with_reducible refine World.rowIs.alloc ?_ _) | (with_reducible refine World.rowIs.drew ?_) | (with_reducible refine row_put15 ?_ _ _ rfl) | ((with_reducible refine rowIs_other ?_ ?_ _ _) <;> (first | omega | (with_reducible assumption) | skip)) | (with_reducible refine rowIs_below ?_ (by with_reducible assumption)) | ((with_reducible refine rowIs_grown ?_ (by with_reducible assumption) ?_) <;> (first | omega | (with_reducible assumption) | skip))))) 9 _ rfl (show 9 < 15 by decide)) 10 _ rfl (show 10 < 15 by decide)⟩ ?_
  clear hG6 hD6 hZ6 hr6 hda hga hza hdb hgb hzb p6 q6 s9 f9 s9b f9b s10 f10 s10b f10b hab6 hl6 ha6
  rintro w7 ⟨hG7, ⟨at7, hD7, p7, q7⟩, hZ7, hr7⟩
  have hl7 := hZ7.lt
  have ha7 := hr7.lt
  obtain ⟨co, coq⟩ : ∃ x, x = 1 + va := ⟨_, rfl⟩
  rw [← coq] at hr7
  have co1 : 1 ≤ co := by omega
  have co2 : co ≤ 10 := by omega
  clear coq hva hua
  obtain ⟨wa, waq⟩ : ∃ x, x = 1 + vb := ⟨_, rfl⟩
  rw [← waq] at hr7
  have wa1 : 1 ≤ wa := by omega
  have wa2 : wa ≤ 10 := by omega
  clear waq hvb hub
  have s11 : w7.cell? ⟨ab, 11, none⟩ = some (.int .i64 0) := hr7.cell (by decide)
  have f11 := hr7.frozen 11
  have hab7 := hr7.lt
  have s14 : w7.cell? ⟨ab, 14, none⟩ = some (.int .i64 0) := hr7.cell (by decide)
  have f14 := hr7.frozen 14
  go_upto_region 11 with (first | (go_at_call 115; ((with_reducible refine (diceN _ _ _ 1001 _ hD7 (by omega) (by omega) (by omega) (by omega)).mono ?_); rintro e w5a ⟨va, rfl, hva, hua, hda, hga⟩; have hza := hga.size; (repeat (first | simp only [World.size_alloc] at hza | simp only [World.size_drew] at hza | simp only [World.size_setCell] at hza)))) | (go_at_call 116; ((with_reducible refine (diceMost _ _ _ _ 3 _ [4, 200, 65537] _ (hda.alloc _) (by omega) (by omega) rfl (by omega) (by omega) (by omega) (by simp) (diceCells3 _ 4 200 65537 _ _ rfl)).mono ?_); rintro e w5b ⟨vb, rfl, hyb, hdb, hgb⟩; have hvb : 4 ≤ vb ∧ vb ≤ 65537 := (by simp only [List.mem_cons, List.not_mem_nil, or_false] at hyb; omega); clear hyb; have hzb := hgb.size; (repeat (first | simp only [World.size_alloc] at hzb | simp only [World.size_drew] at hzb | simp only [World.size_setCell] at hzb)))) | (go_at_call 115; ((with_reducible refine (diceN _ _ _ vb _ hdb (by omega) (by omega) (by omega) (by omega)).mono ?_); rintro e w5c ⟨vc, rfl, hvc, huc, hdc, hgc⟩; have s11c := cell_grown hgc (cell_grown hgb (cell_alloc_keep (cell_grown hga (s11) hadb)) hadb) hadb; have f11c : w5c.frozen? ⟨ab, 11, none⟩ = false := frozen_grown hgc (frozen_grown hgb (frozen_alloc_keep (by first | omega | (simp only [World.size_drew, World.size_alloc]; omega)) (frozen_grown hga (f11) (by show ab < _; first | omega | (simp only [World.size_drew, World.size_alloc]; omega)) hadb)) (by show ab < _; first | omega | (simp only [World.size_drew, World.size_alloc]; omega)) hadb) (by show ab < _; first | omega | (simp only [World.size_drew, World.size_alloc]; omega)) hadb; have s14c := cell_grown hgc (cell_grown hgb (cell_alloc_keep (cell_grown hga (s14) hadb)) hadb) hadb; have f14c : w5c.frozen? ⟨ab, 14, none⟩ = false := frozen_grown hgc (frozen_grown hgb (frozen_alloc_keep (by first | omega | (simp only [World.size_drew, World.size_alloc]; omega)) (frozen_grown hga (f14) (by show ab < _; first | omega | (simp only [World.size_drew, World.size_alloc]; omega)) hadb)) (by show ab < _; first | omega | (simp only [World.size_drew, World.size_alloc]; omega)) hadb) (by show ab < _; first | omega | (simp only [World.size_drew, World.size_alloc]; omega)) hadb; have hzc := hgc.size; (repeat (first | simp only [World.size_alloc] at hzc | simp only [World.size_drew] at hzc | simp only [World.size_setCell] at hzc)))) | fail)
  refine wp_world (fun ω => w.grownBy ω (some d) ∧ (∃ at', DiceOk ω d g at' ∧ 0 ≤ at' ∧ at' ≤ a + 22) ∧ ω.rowIs w.heap.size 83 15 (axv [.int .i64 0, .int .i64 0, .int .i64 0, .int .i64 0, .int .i64 0, .int .i64 0, .int .i64 0, .int .i64 0, .int .i64 0, .int .i64 0, .int .i64 0, .int .i64 0, .slice none 0 0, .slice none 0 0, .int .i64 0]) ∧ ω.rowIs ab 83 15 (axv [.int .i64 0, .int .i64 0, .int .i64 no, .int .i64 pu, .int .i64 su, .int .i64 tr, .int .i64 ra, .int .i64 sl, .int .i64 li, .int .i64 co, .int .i64 wa, .int .i64 va, .slice none 0 0, .slice none 0 0, .int .i64 vc])) ⟨by (repeat' (first | (with_reducible exact World.grownBy.refl _ _) | (with_reducible assumption) | (with_reducible refine grown_alloc ?_ _) | (with_reducible refine grown_drew ?_) | ((with_reducible refine grown_setn ?_ ?_ _ _) <;> (first | omega | skip)) | (with_reducible refine grown_below ?_ (by with_reducible assumption)) | (with_reducible refine World.grownBy.trans ?_ (by with_reducible assumption)))), ⟨_, (hdc.set hadb hra).set hadb hra, by omega, by omega⟩, by (repeat' (first | (with_reducible assumption) | (with_reducible refine World.rowIs.alloc ?_ _) | (with_reducible refine World.rowIs.drew ?_) | (with_reducible refine row_put15 ?_ _ _ rfl) | ((with_reducible refine rowIs_other ?_ ?_ _ _) <;> (first | omega | (with_reducible assumption) | skip)) | (with_reducible refine rowIs_below ?_ (by with_reducible assumption)) | ((with_reducible refine rowIs_grown ?_ (by with_reducible assumption) ?_) <;> (first | omega | (with_reducible assumption) | skip)))), row_put15 (l := [.int .i64 0, .int .i64 0, .int .i64 no, .int .i64 pu, .int .i64 su, .int .i64 tr, .int .i64 ra, .int .i64 sl, .int .i64 li, .int .i64 co, .int .i64 wa, .int .i64 va, .slice none 0 0, .slice none 0 0, .int .i64 0]) (row_put15 (l := [.int .i64 0, .int .i64 0, .int .i64 no, .int .i64 pu, .int .i64 su, .int .i64 tr, .int .i64 ra, .int .i64 sl, .int .i64 li, .int .i64 co, .int .i64 wa, .int .i64 0, .slice none 0 0, .slice none 0 0, .int .i64 0]) (by (repeat' (first | (with_reducible assumption) | (with_reducible refine World.rowIs.alloc ?_ _) | (with_reducible refine World.rowIs.drew ?_) | (with_reducible refine row_put15 ?_ _ _ rfl) | ((with_reducible refine rowIs_other ?_ ?_ _ _) <;> (first | omega | (with_reducible assumption) | skip)) | (with_reducible refine rowIs_below ?_ (by with_reducible assumption)) | ((with_reducible refine rowIs_grown ?_ (by with_reducible assumption) ?_) <;> (first | omega | (with_reducible assumption) | skip))))) 11 _ rfl (show 11 < 15 by decide)) 14 _ rfl (show 14 < 15 by decide)⟩ ?_
  clear hG7 hD7 hZ7 hr7 hda hga hza hdb hgb hzb hdc hgc hzc p7 q7 s11 f11 s11c f11c s14 f14 s14c f14c hab7 hl7 ha7
  rintro w8 ⟨hG8, ⟨at8, hD8, p8, q8⟩, hZ8, hr8⟩
  have hl8 := hZ8.lt
  have ha8 := hr8.lt
  obtain ⟨tu, tuq⟩ : ∃ x, x = va := ⟨_, rfl⟩
  rw [← tuq] at hr8
  have tu1 : 0 ≤ tu := by omega
  have tu2 : tu ≤ 1000 := by omega
  clear tuq hva hua
  obtain ⟨bu, buq⟩ : ∃ x, x = vc := ⟨_, rfl⟩
  rw [← buq] at hr8
  have bu1 : 0 ≤ bu := by omega
  have bu2 : bu ≤ 65536 := by omega
  clear buq hvb hvc huc
  have s12 : w8.cell? ⟨ab, 12, none⟩ = some (.slice none 0 0) := hr8.cell (by decide)
  have f12 := hr8.frozen 12
  have hab8 := hr8.lt
  have s13 : w8.cell? ⟨ab, 13, none⟩ = some (.slice none 0 0) := hr8.cell (by decide)
  have f13 := hr8.frozen 13
  go_upto_region 12 with (first | (go_at_call 115; ((with_reducible refine (diceN _ _ _ 900 _ hD8 (by omega) (by omega) (by omega) (by omega)).mono ?_); rintro e w5a ⟨va, rfl, hva, hua, hda, hga⟩; have hza := hga.size; (repeat (first | simp only [World.size_alloc] at hza | simp only [World.size_drew] at hza | simp only [World.size_setCell] at hza)))) | (go_at_call 116; ((with_reducible refine (diceMost _ _ _ _ 2 _ [60, 65537] _ ((hda.alloc _).alloc _) (by omega) (by omega) rfl (by omega) (by omega) (by omega) (by simp) (diceCells2 _ 60 65537 _ _ (by simp))).mono ?_); rintro e w5b ⟨vb, rfl, hyb, hdb, hgb⟩; have hvb : 60 ≤ vb ∧ vb ≤ 65537 := (by simp only [List.mem_cons, List.not_mem_nil, or_false] at hyb; omega); clear hyb; have hzb := hgb.size; (repeat (first | simp only [World.size_alloc] at hzb | simp only [World.size_drew] at hzb | simp only [World.size_setCell] at hzb)))) | (go_at_call 115; ((with_reducible refine (diceN _ _ _ vb _ hdb (by omega) (by omega) (by omega) (by omega)).mono ?_); rintro e w5c ⟨vc, rfl, hvc, huc, hdc, hgc⟩; have hzc := hgc.size; (repeat (first | simp only [World.size_alloc] at hzc | simp only [World.size_drew] at hzc | simp only [World.size_setCell] at hzc)))) | (go_at_call 115; ((with_reducible refine (diceN _ _ _ 300 _ hdc (by omega) (by omega) (by omega) (by omega)).mono ?_); rintro e w5d ⟨vd, rfl, hvd, hud, hdd, hgd⟩; have s12d := cell_grown hgd (cell_grown hgc (cell_grown hgb (cell_alloc_keep (cell_alloc_keep (cell_grown hga (s12) hadb))) hadb) hadb) hadb; have f12d : w5d.frozen? ⟨ab, 12, none⟩ = false := frozen_grown hgd (frozen_grown hgc (frozen_grown hgb (frozen_alloc_keep (by first | omega | (simp only [World.size_drew, World.size_alloc]; omega)) (frozen_alloc_keep (by first | omega | (simp only [World.size_drew, World.size_alloc]; omega)) (frozen_grown hga (f12) (by show ab < _; first | omega | (simp only [World.size_drew, World.size_alloc]; omega)) hadb))) (by show ab < _; first | omega | (simp only [World.size_drew, World.size_alloc]; omega)) hadb) (by show ab < _; first | omega | (simp only [World.size_drew, World.size_alloc]; omega)) hadb) (by show ab < _; first | omega | (simp only [World.size_drew, World.size_alloc]; omega)) hadb; have s13d := cell_grown hgd (cell_grown hgc (cell_grown hgb (cell_alloc_keep (cell_alloc_keep (cell_grown hga (s13) hadb))) hadb) hadb) hadb; have f13d : w5d.frozen? ⟨ab, 13, none⟩ = false := frozen_grown hgd (frozen_grown hgc (frozen_grown hgb (frozen_alloc_keep (by first | omega | (simp only [World.size_drew, World.size_alloc]; omega)) (frozen_alloc_keep (by first | omega | (simp only [World.size_drew, World.size_alloc]; omega)) (frozen_grown hga (f13) (by show ab < _; first | omega | (simp only [World.size_drew, World.size_alloc]; omega)) hadb))) (by show ab < _; first | omega | (simp only [World.size_drew, World.size_alloc]; omega)) hadb) (by show ab < _; first | omega | (simp only [World.size_drew, World.size_alloc]; omega)) hadb) (by show ab < _; first | omega | (simp only [World.size_drew, World.size_alloc]; omega)) hadb; have hzd := hgd.size; have habd : ab < w5d.heap.size := (by omega); (repeat (first | simp only [World.size_alloc] at hzd | simp only [World.size_drew] at hzd | simp only [World.size_setCell] at hzd)))) | fail)
  refine wp_world (fun ω => w.grownBy ω (some d) ∧ (∃ at', DiceOk ω d g at' ∧ 0 ≤ at' ∧ at' ≤ a + 26) ∧ ω.rowIs w.heap.size 83 15 (axv [.int .i64 0, .int .i64 0, .int .i64 0, .int .i64 0, .int .i64 0, .int .i64 0, .int .i64 0, .int .i64 0, .int .i64 0, .int .i64 0, .int .i64 0, .int .i64 0, .slice none 0 0, .slice none 0 0, .int .i64 0]) ∧ ω.rowIs ab 83 15 (axv [.int .i64 0, .int .i64 0, .int .i64 no, .int .i64 pu, .int .i64 su, .int .i64 tr, .int .i64 ra, .int .i64 sl, .int .i64 li, .int .i64 co, .int .i64 wa, .int .i64 tu, .slice (some ⟨w5a.heap.size, 0, none⟩) 2 2, .slice (some ⟨w5d.heap.size, 0, none⟩) 2 2, .int .i64 bu])) ⟨by (repeat' (first | (with_reducible exact World.grownBy.refl _ _) | (with_reducible assumption) | (with_reducible refine grown_alloc ?_ _) | (with_reducible refine grown_drew ?_) | ((with_reducible refine grown_setn ?_ ?_ _ _) <;> (first | omega | skip)) | (with_reducible refine grown_below ?_ (by with_reducible assumption)) | (with_reducible refine World.grownBy.trans ?_ (by with_reducible assumption)))), ⟨_, ((hdd.set hadb hra).set hadb hra).alloc _, by omega, by omega⟩, by (repeat' (first | (with_reducible assumption) | (with_reducible refine World.rowIs.alloc ?_ _) | (with_reducible refine World.rowIs.drew ?_) | (with_reducible refine row_put15 ?_ _ _ rfl) | ((with_reducible refine rowIs_other ?_ ?_ _ _) <;> (first | omega | (with_reducible assumption) | skip)) | (with_reducible refine rowIs_below ?_ (by with_reducible assumption)) | ((with_reducible refine rowIs_grown ?_ (by with_reducible assumption) ?_) <;> (first | omega | (with_reducible assumption) | skip)))), World.rowIs.alloc (row_put15 (l := [.int .i64 0, .int .i64 0, .int .i64 no, .int .i64 pu, .int .i64 su, .int .i64 tr, .int .i64 ra, .int .i64 sl, .int .i64 li, .int .i64 co, .int .i64 wa, .int .i64 tu, .slice (some ⟨w5a.heap.size, 0, none⟩) 2 2, .slice none 0 0, .int .i64 bu]) (row_put15 (l := [.int .i64 0, .int .i64 0, .int .i64 no, .int .i64 pu, .int .i64 su, .int .i64 tr, .int .i64 ra, .int .i64 sl, .int .i64 li, .int .i64 co, .int .i64 wa, .int .i64 tu, .slice none 0 0, .slice none 0 0, .int .i64 bu]) (by (repeat' (first | (with_reducible assumption) | (with_reducible refine World.rowIs.alloc ?_ _) | (with_reducible refine World.rowIs.drew ?_) | (with_reducible refine row_put15 ?_ _ _ rfl) | ((with_reducible refine rowIs_other ?_ ?_ _ _) <;> (first | omega | (with_reducible assumption) | skip)) | (with_reducible refine rowIs_below ?_ (by with_reducible assumption)) | ((with_reducible refine rowIs_grown ?_ (by with_reducible assumption) ?_) <;> (first | omega | (with_reducible assumption) | skip))))) 12 _ rfl (show 12 < 15 by decide)) 13 _ rfl (show 13 < 15 by decide)) _⟩ ?_
  clear hG8 hD8 hZ8 hr8 hda hga hza hdb hgb hzb hdc hgc hzc hdd hgd hzd habd p8 q8 s12 f12 s12d f12d s13 f13 s13d f13d hab8 hl8 ha8 hva hua hvb hvc huc hvd hud
  rintro w9 ⟨hG9, ⟨at9, hD9, p9, q9⟩, hZ9, hr9⟩
  have hl9 := hZ9.lt
  have ha9 := hr9.lt
  generalize w5a.heap.size = pA at *
  generalize w5d.heap.size = pI at *
  have k0 : w9.cell? ⟨ab, 0, none⟩ = some (.int .i64 0) := hr9.cell (by decide)
  have k1 : w9.cell? ⟨ab, 1, none⟩ = some (.int .i64 0) := hr9.cell (by decide)
  have k2 : w9.cell? ⟨ab, 2, none⟩ = some (.int .i64 no) := hr9.cell (by decide)
  have k3 : w9.cell? ⟨ab, 3, none⟩ = some (.int .i64 pu) := hr9.cell (by decide)
  have k4 : w9.cell? ⟨ab, 4, none⟩ = some (.int .i64 su) := hr9.cell (by decide)
  have k5 : w9.cell? ⟨ab, 5, none⟩ = some (.int .i64 tr) := hr9.cell (by decide)
  have k6 : w9.cell? ⟨ab, 6, none⟩ = some (.int .i64 ra) := hr9.cell (by decide)
  have k7 : w9.cell? ⟨ab, 7, none⟩ = some (.int .i64 sl) := hr9.cell (by decide)
  have k8 : w9.cell? ⟨ab, 8, none⟩ = some (.int .i64 li) := hr9.cell (by decide)
  have k9 : w9.cell? ⟨ab, 9, none⟩ = some (.int .i64 co) := hr9.cell (by decide)
  have k10 : w9.cell? ⟨ab, 10, none⟩ = some (.int .i64 wa) := hr9.cell (by decide)
  have k11 : w9.cell? ⟨ab, 11, none⟩ = some (.int .i64 tu) := hr9.cell (by decide)
  have k12 : w9.cell? ⟨ab, 12, none⟩ = some (.slice (some ⟨pA, 0, none⟩) 2 2) := hr9.cell (by decide)
  have k13 : w9.cell? ⟨ab, 13, none⟩ = some (.slice (some ⟨pI, 0, none⟩) 2 2) := hr9.cell (by decide)
  have k14 : w9.cell? ⟨ab, 14, none⟩ = some (.int .i64 bu) := hr9.cell (by decide)
  have hps : IntKind.wrap .i64 (pu + sl) = pu + sl := IntWalk.i64_in _ ⟨by omega, by omega⟩
  obtain ⟨bk, hbk⟩ : ∃ x, pbrake (pu + sl) gr mo = x := ⟨_, rfl⟩
  have hb0 : 0 ≤ bk := by rw [← hbk]; exact pbrake_nonneg (by omega) _
  have hb1 : bk ≤ 36006000 := by rw [← hbk]; exact pbrake_le (by omega) (by omega) (by omega)
  have Hbk := Lib.hid hbk
  clear hbk
  have hn1 : IntKind.wrap .i64 (no + bk) = no + bk := IntWalk.i64_in _ ⟨by omega, by omega⟩
  have hn2 : IntKind.wrap .i64 (2 * (no + bk)) = 2 * (no + bk) := IntWalk.i64_in _ ⟨by omega, by omega⟩
  go_region_held3 (fun ω => ω.cell? ⟨ab, 0, none⟩ = some (.int .i64 0) ∧ ω.cell? ⟨ab, 1, none⟩ = some (.int .i64 0) ∧ ω.cell? ⟨ab, 2, none⟩ = some (.int .i64 no) ∧ ω.cell? ⟨ab, 3, none⟩ = some (.int .i64 pu) ∧ ω.cell? ⟨ab, 4, none⟩ = some (.int .i64 su) ∧ ω.cell? ⟨ab, 5, none⟩ = some (.int .i64 tr) ∧ ω.cell? ⟨ab, 6, none⟩ = some (.int .i64 ra) ∧ ω.cell? ⟨ab, 7, none⟩ = some (.int .i64 sl) ∧ ω.cell? ⟨ab, 8, none⟩ = some (.int .i64 li) ∧ ω.cell? ⟨ab, 9, none⟩ = some (.int .i64 co) ∧ ω.cell? ⟨ab, 10, none⟩ = some (.int .i64 wa) ∧ ω.cell? ⟨ab, 11, none⟩ = some (.int .i64 tu) ∧ ω.cell? ⟨ab, 12, none⟩ = some (.slice (some ⟨pA, 0, none⟩) 2 2) ∧ ω.cell? ⟨ab, 13, none⟩ = some (.slice (some ⟨pI, 0, none⟩) 2 2) ∧ ω.cell? ⟨ab, 14, none⟩ = some (.int .i64 bu)) (refine ⟨?_, ?_, ?_, ?_, ?_, ?_, ?_, ?_, ?_, ?_, ?_, ?_, ?_, ?_, ?_⟩ <;> (repeat' (first | (with_reducible assumption) | (with_reducible refine cell_alloc_keep ?_) | (with_reducible refine cell_drew_keep ?_) | (with_reducible refine cell_drewN_keep ?_) | (with_reducible refine cell_below (by with_reducible assumption) ?_ ?_) | omega | (simp; done) | (simp; omega)))) (first | (go_at_call 62; ((with_reducible refine (refGuardRule _ _ _ _ _ _ _ _ _ _ _ _ _ (pu + sl) mo gr _ _ _ su1 su2 hps hm1 hm2).mono ?_); rintro e w5g ⟨rfl, hb5g⟩; have hz5g := hb5g.size; (repeat (first | simp only [World.size_alloc] at hz5g | simp only [World.size_drew] at hz5g | simp only [World.size_setCell] at hz5g)))) | (go_at_call 134; ((with_reducible refine (refBrake_as _ _ _ _ _ _ _ bk _ (by omega) (by omega) (by omega) (by omega) (by omega) (by omega) Hbk.out).mono ?_); rintro e w5h ⟨rfl, hb5h⟩; have hz5h := hb5h.size; (repeat (first | simp only [World.size_alloc] at hz5h | simp only [World.size_drew] at hz5h | simp only [World.size_setCell] at hz5h)))) | fail)
  obtain ⟨wd, hwd⟩ : ∃ x, x = 2 * (no + bk) := ⟨_, rfl⟩
  rw [← hwd] at hn2
  have wd1 : 0 ≤ wd := by omega
  have wd2 : wd ≤ 72014000 := by omega
  refine exit_world (fun ω => w.grownBy ω (some d) ∧ (∃ at', DiceOk ω d g at' ∧ 0 ≤ at' ∧ at' ≤ a + 26) ∧ ω.rowIs w.heap.size 83 15 (axv [.int .i64 0, .int .i64 0, .int .i64 0, .int .i64 0, .int .i64 0, .int .i64 0, .int .i64 0, .int .i64 0, .int .i64 0, .int .i64 0, .int .i64 0, .int .i64 0, .slice none 0 0, .slice none 0 0, .int .i64 0]) ∧ ω.rowIs ab 83 15 (axv [.int .i64 0, .int .i64 0, .int .i64 no, .int .i64 pu, .int .i64 su, .int .i64 tr, .int .i64 ra, .int .i64 sl, .int .i64 li, .int .i64 co, .int .i64 wa, .int .i64 tu, .slice (some ⟨pA, 0, none⟩) 2 2, .slice (some ⟨pI, 0, none⟩) 2 2, .int .i64 bu])) ⟨by (repeat' (first | (with_reducible exact World.grownBy.refl _ _) | (with_reducible assumption) | (with_reducible refine grown_alloc ?_ _) | (with_reducible refine grown_drew ?_) | ((with_reducible refine grown_setn ?_ ?_ _ _) <;> (first | omega | skip)) | (with_reducible refine grown_below ?_ (by with_reducible assumption)) | (with_reducible refine World.grownBy.trans ?_ (by with_reducible assumption)))), ⟨_, (hD9.drew.below hb5g).below hb5h, by omega, by omega⟩, by (repeat' (first | (with_reducible assumption) | (with_reducible refine World.rowIs.alloc ?_ _) | (with_reducible refine World.rowIs.drew ?_) | (with_reducible refine row_put15 ?_ _ _ rfl) | ((with_reducible refine rowIs_other ?_ ?_ _ _) <;> (first | omega | (with_reducible assumption) | skip)) | (with_reducible refine rowIs_below ?_ (by with_reducible assumption)) | ((with_reducible refine rowIs_grown ?_ (by with_reducible assumption) ?_) <;> (first | omega | (with_reducible assumption) | skip)))), by (repeat' (first | (with_reducible assumption) | (with_reducible refine World.rowIs.alloc ?_ _) | (with_reducible refine World.rowIs.drew ?_) | (with_reducible refine row_put15 ?_ _ _ rfl) | ((with_reducible refine rowIs_other ?_ ?_ _ _) <;> (first | omega | (with_reducible assumption) | skip)) | (with_reducible refine rowIs_below ?_ (by with_reducible assumption)) | ((with_reducible refine rowIs_grown ?_ (by with_reducible assumption) ?_) <;> (first | omega | (with_reducible assumption) | skip))))⟩ ?_
  clear hG9 hD9 hZ9 hr9 p9 q9 hl9 ha9 k0 k1 k2 k3 k4 k5 k6 k7 k8 k9 k10 k11 k12 k13 k14 hps hb0 hb1 hn1 hn2 hb5g hz5g hb5h hz5h Hbk
  rintro w10 ⟨hG10, ⟨at10, hD10, p10, q10⟩, hZ10, hr10⟩
  have hl10 := hZ10.lt
  have ha10 := hr10.lt
  rw [← hwd]
  clear hwd
  go_upto_if 108 with fail
  go_cut [6] (fun s6 ω => ∃ rc wc' : Int, s6 = .int .i64 wc' ∧ 1 ≤ rc ∧ rc ≤ tr ∧ 0 ≤ wc' ∧ wc' ≤ 72014000 ∧ w.grownBy ω (some d) ∧ (∃ at', DiceOk ω d g at' ∧ 0 ≤ at' ∧ at' ≤ a + 26) ∧ ω.rowIs w.heap.size 83 15 (axv [.int .i64 0, .int .i64 0, .int .i64 0, .int .i64 0, .int .i64 0, .int .i64 0, .int .i64 0, .int .i64 0, .int .i64 0, .int .i64 0, .int .i64 0, .int .i64 0, .slice none 0 0, .slice none 0 0, .int .i64 0]) ∧ ω.rowIs ab 83 15 (axv [.int .i64 0, .int .i64 0, .int .i64 no, .int .i64 pu, .int .i64 su, .int .i64 tr, .int .i64 rc, .int .i64 sl, .int .i64 li, .int .i64 co, .int .i64 wa, .int .i64 tu, .slice (some ⟨pA, 0, none⟩) 2 2, .slice (some ⟨pI, 0, none⟩) 2 2, .int .i64 bu]))
  case first =>
    by_cases c : 150000 < wd
    · go_upto_region 14 with fail
      have k5 : w10.cell? ⟨ab, 5, none⟩ = some (.int .i64 tr) := hr10.cell (by decide)
      have s6 : w10.cell? ⟨ab, 6, none⟩ = some (.int .i64 ra) := hr10.cell (by decide)
      have f6 := hr10.frozen 6
      have hab10 := hr10.lt
      go_upto_region 15 with fail
      refine wp_world (fun ω => w.grownBy ω (some d) ∧ (∃ at', DiceOk ω d g at' ∧ 0 ≤ at' ∧ at' ≤ a + 26) ∧ ω.rowIs w.heap.size 83 15 (axv [.int .i64 0, .int .i64 0, .int .i64 0, .int .i64 0, .int .i64 0, .int .i64 0, .int .i64 0, .int .i64 0, .int .i64 0, .int .i64 0, .int .i64 0, .int .i64 0, .slice none 0 0, .slice none 0 0, .int .i64 0]) ∧ ω.rowIs ab 83 15 (axv [.int .i64 0, .int .i64 0, .int .i64 no, .int .i64 pu, .int .i64 su, .int .i64 tr, .int .i64 tr, .int .i64 sl, .int .i64 li, .int .i64 co, .int .i64 wa, .int .i64 tu, .slice (some ⟨pA, 0, none⟩) 2 2, .slice (some ⟨pI, 0, none⟩) 2 2, .int .i64 bu])) ⟨by (repeat' (first | (with_reducible exact World.grownBy.refl _ _) | (with_reducible assumption) | (with_reducible refine grown_alloc ?_ _) | (with_reducible refine grown_drew ?_) | ((with_reducible refine grown_setn ?_ ?_ _ _) <;> (first | omega | skip)) | (with_reducible refine grown_below ?_ (by with_reducible assumption)) | (with_reducible refine World.grownBy.trans ?_ (by with_reducible assumption)))), ⟨_, hD10.set hadb hra, by omega, by omega⟩, by (repeat' (first | (with_reducible assumption) | (with_reducible refine World.rowIs.alloc ?_ _) | (with_reducible refine World.rowIs.drew ?_) | (with_reducible refine row_put15 ?_ _ _ rfl) | ((with_reducible refine rowIs_other ?_ ?_ _ _) <;> (first | omega | (with_reducible assumption) | skip)) | (with_reducible refine rowIs_below ?_ (by with_reducible assumption)) | ((with_reducible refine rowIs_grown ?_ (by with_reducible assumption) ?_) <;> (first | omega | (with_reducible assumption) | skip)))), row_put15 hr10 6 _ rfl (show 6 < 15 by decide)⟩ ?_
      clear hG10 hD10 hZ10 hr10 p10 q10 hl10 ha10 k5 s6 f6 hab10
      rintro w11 ⟨hG11, ⟨at11, hD11, p11, q11⟩, hZ11, hr11⟩
      have hl11 := hZ11.lt
      have ha11 := hr11.lt
      clear wd1 wd2
      have k0 : w11.cell? ⟨ab, 0, none⟩ = some (.int .i64 0) := hr11.cell (by decide)
      have k1 : w11.cell? ⟨ab, 1, none⟩ = some (.int .i64 0) := hr11.cell (by decide)
      have k2 : w11.cell? ⟨ab, 2, none⟩ = some (.int .i64 no) := hr11.cell (by decide)
      have k3 : w11.cell? ⟨ab, 3, none⟩ = some (.int .i64 pu) := hr11.cell (by decide)
      have k4 : w11.cell? ⟨ab, 4, none⟩ = some (.int .i64 su) := hr11.cell (by decide)
      have k5 : w11.cell? ⟨ab, 5, none⟩ = some (.int .i64 tr) := hr11.cell (by decide)
      have k6 : w11.cell? ⟨ab, 6, none⟩ = some (.int .i64 tr) := hr11.cell (by decide)
      have k7 : w11.cell? ⟨ab, 7, none⟩ = some (.int .i64 sl) := hr11.cell (by decide)
      have k8 : w11.cell? ⟨ab, 8, none⟩ = some (.int .i64 li) := hr11.cell (by decide)
      have k9 : w11.cell? ⟨ab, 9, none⟩ = some (.int .i64 co) := hr11.cell (by decide)
      have k10 : w11.cell? ⟨ab, 10, none⟩ = some (.int .i64 wa) := hr11.cell (by decide)
      have k11 : w11.cell? ⟨ab, 11, none⟩ = some (.int .i64 tu) := hr11.cell (by decide)
      have k12 : w11.cell? ⟨ab, 12, none⟩ = some (.slice (some ⟨pA, 0, none⟩) 2 2) := hr11.cell (by decide)
      have k13 : w11.cell? ⟨ab, 13, none⟩ = some (.slice (some ⟨pI, 0, none⟩) 2 2) := hr11.cell (by decide)
      have k14 : w11.cell? ⟨ab, 14, none⟩ = some (.int .i64 bu) := hr11.cell (by decide)
      have hps : IntKind.wrap .i64 (pu + sl) = pu + sl := IntWalk.i64_in _ ⟨by omega, by omega⟩
      obtain ⟨bj, hbj⟩ : ∃ x, pbrake (pu + sl) mo mo = x := ⟨_, rfl⟩
      have hb0 : 0 ≤ bj := by rw [← hbj]; exact pbrake_nonneg (by omega) _
      have hb1 : bj ≤ 36006000 := by rw [← hbj]; exact pbrake_le (by omega) (by omega) (by omega)
      have Hbj := Lib.hid hbj
      clear hbj
      have hn1 : IntKind.wrap .i64 (no + bj) = no + bj := IntWalk.i64_in _ ⟨by omega, by omega⟩
      have hn2 : IntKind.wrap .i64 (2 * (no + bj)) = 2 * (no + bj) := IntWalk.i64_in _ ⟨by omega, by omega⟩
      go_region_held3 (fun ω => ω.cell? ⟨ab, 0, none⟩ = some (.int .i64 0) ∧ ω.cell? ⟨ab, 1, none⟩ = some (.int .i64 0) ∧ ω.cell? ⟨ab, 2, none⟩ = some (.int .i64 no) ∧ ω.cell? ⟨ab, 3, none⟩ = some (.int .i64 pu) ∧ ω.cell? ⟨ab, 4, none⟩ = some (.int .i64 su) ∧ ω.cell? ⟨ab, 5, none⟩ = some (.int .i64 tr) ∧ ω.cell? ⟨ab, 6, none⟩ = some (.int .i64 tr) ∧ ω.cell? ⟨ab, 7, none⟩ = some (.int .i64 sl) ∧ ω.cell? ⟨ab, 8, none⟩ = some (.int .i64 li) ∧ ω.cell? ⟨ab, 9, none⟩ = some (.int .i64 co) ∧ ω.cell? ⟨ab, 10, none⟩ = some (.int .i64 wa) ∧ ω.cell? ⟨ab, 11, none⟩ = some (.int .i64 tu) ∧ ω.cell? ⟨ab, 12, none⟩ = some (.slice (some ⟨pA, 0, none⟩) 2 2) ∧ ω.cell? ⟨ab, 13, none⟩ = some (.slice (some ⟨pI, 0, none⟩) 2 2) ∧ ω.cell? ⟨ab, 14, none⟩ = some (.int .i64 bu)) (refine ⟨?_, ?_, ?_, ?_, ?_, ?_, ?_, ?_, ?_, ?_, ?_, ?_, ?_, ?_, ?_⟩ <;> (repeat' (first | (with_reducible assumption) | (with_reducible refine cell_alloc_keep ?_) | (with_reducible refine cell_drew_keep ?_) | (with_reducible refine cell_drewN_keep ?_) | (with_reducible refine cell_below (by with_reducible assumption) ?_ ?_) | omega | (simp; done) | (simp; omega)))) (first | (go_at_call 62; ((with_reducible refine (refGuardRule _ _ _ _ _ _ _ _ _ _ _ _ _ (pu + sl) mo mo _ _ _ su1 su2 hps hm1 hm1).mono ?_); rintro e w5g ⟨rfl, hb5g⟩; have hz5g := hb5g.size; (repeat (first | simp only [World.size_alloc] at hz5g | simp only [World.size_drew] at hz5g | simp only [World.size_setCell] at hz5g)))) | (go_at_call 134; ((with_reducible refine (refBrake_as _ _ _ _ _ _ _ bj _ (by omega) (by omega) (by omega) (by omega) (by omega) (by omega) Hbj.out).mono ?_); rintro e w5h ⟨rfl, hb5h⟩; have hz5h := hb5h.size; (repeat (first | simp only [World.size_alloc] at hz5h | simp only [World.size_drew] at hz5h | simp only [World.size_setCell] at hz5h)))) | fail)
      have we1 : 0 ≤ 2 * (no + bj) := by omega
      have we2 : 2 * (no + bj) ≤ 72014000 := by omega
      clear k0 k1 k2 k3 k4 k5 k6 k7 k8 k9 k10 k11 k12 k13 k14 hps
      go_wp2_with fail
      go_meet
      exact ⟨tr, _, rfl, by omega, by omega, we1, we2, by (repeat' (first | (with_reducible exact World.grownBy.refl _ _) | (with_reducible assumption) | (with_reducible refine grown_alloc ?_ _) | (with_reducible refine grown_drew ?_) | ((with_reducible refine grown_setn ?_ ?_ _ _) <;> (first | omega | skip)) | (with_reducible refine grown_below ?_ (by with_reducible assumption)) | (with_reducible refine World.grownBy.trans ?_ (by with_reducible assumption)))), ⟨_, (hD11.drew.below hb5g).below hb5h, by omega, by omega⟩, by (repeat' (first | (with_reducible assumption) | (with_reducible refine World.rowIs.alloc ?_ _) | (with_reducible refine World.rowIs.drew ?_) | (with_reducible refine row_put15 ?_ _ _ rfl) | ((with_reducible refine rowIs_other ?_ ?_ _ _) <;> (first | omega | (with_reducible assumption) | skip)) | (with_reducible refine rowIs_below ?_ (by with_reducible assumption)) | ((with_reducible refine rowIs_grown ?_ (by with_reducible assumption) ?_) <;> (first | omega | (with_reducible assumption) | skip)))), by (repeat' (first | (with_reducible assumption) | (with_reducible refine World.rowIs.alloc ?_ _) | (with_reducible refine World.rowIs.drew ?_) | (with_reducible refine row_put15 ?_ _ _ rfl) | ((with_reducible refine rowIs_other ?_ ?_ _ _) <;> (first | omega | (with_reducible assumption) | skip)) | (with_reducible refine rowIs_below ?_ (by with_reducible assumption)) | ((with_reducible refine rowIs_grown ?_ (by with_reducible assumption) ?_) <;> (first | omega | (with_reducible assumption) | skip))))⟩
    · go_wp2_with fail
      go_meet
      exact ⟨ra, wd, rfl, by omega, by omega, wd1, wd2, hG10, ⟨at10, hD10, p10, q10⟩, hZ10, hr10⟩
  clear hG10 hD10 hZ10 hr10 p10 q10 hl10 ha10 wd1 wd2
  obtain ⟨rc, wd, rfl, rc1, rc2, wd1, wd2, hG13, ⟨at13, hD13, p13, q13⟩, hZ13, hr13⟩ := hcut
  obtain ⟨w13, rfl⟩ : ∃ x : World, x = wc := ⟨_, rfl⟩
  have hl13 := hZ13.lt
  have ha13 := hr13.lt
  go_upto_region 17 with (first | (go_at_call 116; ((with_reducible refine (diceMost _ _ _ _ 2 _ [3, 3000] _ (hD13.alloc _) (by omega) (by omega) rfl (by omega) (by omega) (by omega) (by simp) (diceCells2 _ 3 3000 _ _ rfl)).mono ?_); rintro e w5a ⟨va, rfl, hya, hda, hga⟩; have hva : 3 ≤ va ∧ va ≤ 3000 := (by simp only [List.mem_cons, List.not_mem_nil, or_false] at hya; omega); clear hya; have hza := hga.size; (repeat (first | simp only [World.size_alloc] at hza | simp only [World.size_drew] at hza | simp only [World.size_setCell] at hza)))) | (go_at_call 115; ((with_reducible refine (diceN _ _ _ va _ hda (by omega) (by omega) (by omega) (by omega)).mono ?_); rintro e w5b ⟨vb, rfl, hvb, hub, hdb, hgb⟩; have hzb := hgb.size; (repeat (first | simp only [World.size_alloc] at hzb | simp only [World.size_drew] at hzb | simp only [World.size_setCell] at hzb)))) | fail)
  refine wp_world (fun ω => w.grownBy ω (some d) ∧ (∃ at', DiceOk ω d g at' ∧ 0 ≤ at' ∧ at' ≤ a + 28) ∧ ω.rowIs w.heap.size 83 15 (axv [.int .i64 0, .int .i64 0, .int .i64 0, .int .i64 0, .int .i64 0, .int .i64 0, .int .i64 0, .int .i64 0, .int .i64 0, .int .i64 0, .int .i64 0, .int .i64 0, .slice none 0 0, .slice none 0 0, .int .i64 0]) ∧ ω.rowIs ab 83 15 (axv [.int .i64 0, .int .i64 0, .int .i64 no, .int .i64 pu, .int .i64 su, .int .i64 tr, .int .i64 rc, .int .i64 sl, .int .i64 li, .int .i64 co, .int .i64 wa, .int .i64 tu, .slice (some ⟨pA, 0, none⟩) 2 2, .slice (some ⟨pI, 0, none⟩) 2 2, .int .i64 bu])) ⟨by (repeat' (first | (with_reducible exact World.grownBy.refl _ _) | (with_reducible assumption) | (with_reducible refine grown_alloc ?_ _) | (with_reducible refine grown_drew ?_) | ((with_reducible refine grown_setn ?_ ?_ _ _) <;> (first | omega | skip)) | (with_reducible refine grown_below ?_ (by with_reducible assumption)) | (with_reducible refine World.grownBy.trans ?_ (by with_reducible assumption)))), ⟨_, hdb, by omega, by omega⟩, by (repeat' (first | (with_reducible assumption) | (with_reducible refine World.rowIs.alloc ?_ _) | (with_reducible refine World.rowIs.drew ?_) | (with_reducible refine row_put15 ?_ _ _ rfl) | ((with_reducible refine rowIs_other ?_ ?_ _ _) <;> (first | omega | (with_reducible assumption) | skip)) | (with_reducible refine rowIs_below ?_ (by with_reducible assumption)) | ((with_reducible refine rowIs_grown ?_ (by with_reducible assumption) ?_) <;> (first | omega | (with_reducible assumption) | skip)))), by (repeat' (first | (with_reducible assumption) | (with_reducible refine World.rowIs.alloc ?_ _) | (with_reducible refine World.rowIs.drew ?_) | (with_reducible refine row_put15 ?_ _ _ rfl) | ((with_reducible refine rowIs_other ?_ ?_ _ _) <;> (first | omega | (with_reducible assumption) | skip)) | (with_reducible refine rowIs_below ?_ (by with_reducible assumption)) | ((with_reducible refine rowIs_grown ?_ (by with_reducible assumption) ?_) <;> (first | omega | (with_reducible assumption) | skip))))⟩ ?_
  clear hG13 hD13 hZ13 hr13 hda hga hza hdb hgb hzb p13 q13 hl13 ha13
  rintro w14 ⟨hG14, ⟨at14, hD14, p14, q14⟩, hZ14, hr14⟩
  have hl14 := hZ14.lt
  have ha14 := hr14.lt
  generalize hwi : wd + vb = wi at *
  have wi1 : 0 ≤ wi := by omega
  have wi2 : wi ≤ 72017000 := by omega
  clear hwi hva hvb hub
  obtain ⟨mn, hmn⟩ : ∃ x, (if (100000 : Int) < wi then (100000 : Int) else wi) = x := ⟨_, rfl⟩
  have mn1 : 0 ≤ mn := by rw [← hmn]; split <;> omega
  have mn2 : mn ≤ 100000 := by rw [← hmn]; split <;> omega
  have hmw : IntKind.wrap .i64 (mn + 1) = mn + 1 := IntWalk.i64_in _ ⟨by omega, by omega⟩
  have hww : IntKind.wrap .i64 (wi - 200000) = wi - 200000 := IntWalk.i64_in _ ⟨by omega, by omega⟩
  have s0 : w14.cell? ⟨ab, 0, none⟩ = some (.int .i64 0) := hr14.cell (by decide)
  have f0 := hr14.frozen 0
  have hab14 := hr14.lt
  go_upto_region 18 with (first | (go_at_call 115; ((with_reducible refine (diceN _ _ _ (mn + 1) _ hD14 (by omega) (by omega) (by omega) (by omega)).mono ?_); rintro e w5a ⟨va, rfl, hva, hua, hda, hga⟩; have hng : IntKind.wrap .i64 (-va) = -va := IntWalk.i64_in _ ⟨by omega, by omega⟩; obtain ⟨lo, hlo⟩ : ∃ x, (if -va < wi - 200000 then wi - 200000 else -va) = x := ⟨_, rfl⟩; have lo1 : -100000 ≤ lo := (by rw [← hlo]; split <;> omega); have lo2 : lo ≤ 72017000 := (by rw [← hlo]; split <;> omega); have s0a := cell_grown hga (s0) hadb; have f0a : w5a.frozen? ⟨ab, 0, none⟩ = false := frozen_grown hga (f0) (by show ab < _; first | omega | (simp only [World.size_drew, World.size_alloc]; omega)) hadb; have hza := hga.size; (repeat (first | simp only [World.size_alloc] at hza | simp only [World.size_drew] at hza | simp only [World.size_setCell] at hza)))) | fail)
  refine wp_world (fun ω => w.grownBy ω (some d) ∧ (∃ at', DiceOk ω d g at' ∧ 0 ≤ at' ∧ at' ≤ a + 29) ∧ ω.rowIs w.heap.size 83 15 (axv [.int .i64 0, .int .i64 0, .int .i64 0, .int .i64 0, .int .i64 0, .int .i64 0, .int .i64 0, .int .i64 0, .int .i64 0, .int .i64 0, .int .i64 0, .int .i64 0, .slice none 0 0, .slice none 0 0, .int .i64 0]) ∧ ω.rowIs ab 83 15 (axv [.int .i64 lo, .int .i64 0, .int .i64 no, .int .i64 pu, .int .i64 su, .int .i64 tr, .int .i64 rc, .int .i64 sl, .int .i64 li, .int .i64 co, .int .i64 wa, .int .i64 tu, .slice (some ⟨pA, 0, none⟩) 2 2, .slice (some ⟨pI, 0, none⟩) 2 2, .int .i64 bu])) ⟨by (repeat' (first | (with_reducible exact World.grownBy.refl _ _) | (with_reducible assumption) | (with_reducible refine grown_alloc ?_ _) | (with_reducible refine grown_drew ?_) | ((with_reducible refine grown_setn ?_ ?_ _ _) <;> (first | omega | skip)) | (with_reducible refine grown_below ?_ (by with_reducible assumption)) | (with_reducible refine World.grownBy.trans ?_ (by with_reducible assumption)))), ⟨_, hda.set hadb hra, by omega, by omega⟩, by (repeat' (first | (with_reducible assumption) | (with_reducible refine World.rowIs.alloc ?_ _) | (with_reducible refine World.rowIs.drew ?_) | (with_reducible refine row_put15 ?_ _ _ rfl) | ((with_reducible refine rowIs_other ?_ ?_ _ _) <;> (first | omega | (with_reducible assumption) | skip)) | (with_reducible refine rowIs_below ?_ (by with_reducible assumption)) | ((with_reducible refine rowIs_grown ?_ (by with_reducible assumption) ?_) <;> (first | omega | (with_reducible assumption) | skip)))), row_put15 (l := [.int .i64 0, .int .i64 0, .int .i64 no, .int .i64 pu, .int .i64 su, .int .i64 tr, .int .i64 rc, .int .i64 sl, .int .i64 li, .int .i64 co, .int .i64 wa, .int .i64 tu, .slice (some ⟨pA, 0, none⟩) 2 2, .slice (some ⟨pI, 0, none⟩) 2 2, .int .i64 bu]) (by (repeat' (first | (with_reducible assumption) | (with_reducible refine World.rowIs.alloc ?_ _) | (with_reducible refine World.rowIs.drew ?_) | (with_reducible refine row_put15 ?_ _ _ rfl) | ((with_reducible refine rowIs_other ?_ ?_ _ _) <;> (first | omega | (with_reducible assumption) | skip)) | (with_reducible refine rowIs_below ?_ (by with_reducible assumption)) | ((with_reducible refine rowIs_grown ?_ (by with_reducible assumption) ?_) <;> (first | omega | (with_reducible assumption) | skip))))) 0 _ rfl (show 0 < 15 by decide)⟩ ?_
  clear hG14 hD14 hZ14 hr14 hda hga hza p14 q14 hl14 ha14 s0 f0 s0a f0a hab14 hva hua hng hlo hmn hmw hww mn1 mn2
  rintro w15 ⟨hG15, ⟨at15, hD15, p15, q15⟩, hZ15, hr15⟩
  have hl15 := hZ15.lt
  have ha15 := hr15.lt
  have hlw : IntKind.wrap .i64 (lo + wi) = lo + wi := IntWalk.i64_in _ ⟨by omega, by omega⟩
  have k0 : w15.cell? ⟨ab, 0, none⟩ = some (.int .i64 lo) := hr15.cell (by decide)
  have s1 : w15.cell? ⟨ab, 1, none⟩ = some (.int .i64 0) := hr15.cell (by decide)
  have f1 := hr15.frozen 1
  have hab15 := hr15.lt
  go_upto_region 19 with fail
  refine wp_world (fun ω => w.grownBy ω (some d) ∧ (∃ at', DiceOk ω d g at' ∧ 0 ≤ at' ∧ at' ≤ a + 29) ∧ ω.rowIs w.heap.size 83 15 (axv [.int .i64 0, .int .i64 0, .int .i64 0, .int .i64 0, .int .i64 0, .int .i64 0, .int .i64 0, .int .i64 0, .int .i64 0, .int .i64 0, .int .i64 0, .int .i64 0, .slice none 0 0, .slice none 0 0, .int .i64 0]) ∧ ω.rowIs ab 83 15 (axv [.int .i64 lo, .int .i64 (lo + wi), .int .i64 no, .int .i64 pu, .int .i64 su, .int .i64 tr, .int .i64 rc, .int .i64 sl, .int .i64 li, .int .i64 co, .int .i64 wa, .int .i64 tu, .slice (some ⟨pA, 0, none⟩) 2 2, .slice (some ⟨pI, 0, none⟩) 2 2, .int .i64 bu])) ⟨by (repeat' (first | (with_reducible exact World.grownBy.refl _ _) | (with_reducible assumption) | (with_reducible refine grown_alloc ?_ _) | (with_reducible refine grown_drew ?_) | ((with_reducible refine grown_setn ?_ ?_ _ _) <;> (first | omega | skip)) | (with_reducible refine grown_below ?_ (by with_reducible assumption)) | (with_reducible refine World.grownBy.trans ?_ (by with_reducible assumption)))), ⟨_, hD15.set hadb hra, by omega, by omega⟩, by (repeat' (first | (with_reducible assumption) | (with_reducible refine World.rowIs.alloc ?_ _) | (with_reducible refine World.rowIs.drew ?_) | (with_reducible refine row_put15 ?_ _ _ rfl) | ((with_reducible refine rowIs_other ?_ ?_ _ _) <;> (first | omega | (with_reducible assumption) | skip)) | (with_reducible refine rowIs_below ?_ (by with_reducible assumption)) | ((with_reducible refine rowIs_grown ?_ (by with_reducible assumption) ?_) <;> (first | omega | (with_reducible assumption) | skip)))), row_put15 hr15 1 _ rfl (show 1 < 15 by decide)⟩ ?_
  clear hG15 hD15 hZ15 hr15 p15 q15 hl15 ha15 k0 s1 f1 hab15 hlw
  rintro w16 ⟨hG16, ⟨at16, hD16, p16, q16⟩, hZ16, hr16⟩
  have hl16 := hZ16.lt
  have ha16 := hr16.lt
  obtain ⟨hi, hhi⟩ : ∃ x, x = lo + wi := ⟨_, rfl⟩
  rw [← hhi] at hr16
  have hi1 : lo ≤ hi := by omega
  have hi2 : hi ≤ 200000000 := by omega
  clear hhi
  have k1 : w16.cell? ⟨ab, 1, none⟩ = some (.int .i64 hi) := hr16.cell (by decide)
  go_upto_if 144 with fail
  go_cut [] (fun ω => ∃ l2 h2 : Int, -100000000 ≤ l2 ∧ l2 ≤ h2 ∧ h2 ≤ 200000000 ∧ w.grownBy ω (some d) ∧ (∃ at', DiceOk ω d g at' ∧ 0 ≤ at' ∧ at' ≤ a + 29) ∧ ω.rowIs w.heap.size 83 15 (axv [.int .i64 0, .int .i64 0, .int .i64 0, .int .i64 0, .int .i64 0, .int .i64 0, .int .i64 0, .int .i64 0, .int .i64 0, .int .i64 0, .int .i64 0, .int .i64 0, .slice none 0 0, .slice none 0 0, .int .i64 0]) ∧ ω.rowIs ab 83 15 (axv [.int .i64 l2, .int .i64 h2, .int .i64 no, .int .i64 pu, .int .i64 su, .int .i64 tr, .int .i64 rc, .int .i64 sl, .int .i64 li, .int .i64 co, .int .i64 wa, .int .i64 tu, .slice (some ⟨pA, 0, none⟩) 2 2, .slice (some ⟨pI, 0, none⟩) 2 2, .int .i64 bu]))
  case first =>
    by_cases c2 : 100000 < hi
    · have hcw : IntKind.wrap .i64 (100000 - wi) = 100000 - wi := IntWalk.i64_in _ ⟨by omega, by omega⟩
      have s0 : w16.cell? ⟨ab, 0, none⟩ = some (.int .i64 lo) := hr16.cell (by decide)
      have f0 := hr16.frozen 0
      have hab16 := hr16.lt
      have f1 := hr16.frozen 1
      go_wp2_with fail
      go_meet
      exact ⟨100000 - wi, 100000, by omega, by omega, by omega, by (repeat' (first | (with_reducible exact World.grownBy.refl _ _) | (with_reducible assumption) | (with_reducible refine grown_alloc ?_ _) | (with_reducible refine grown_drew ?_) | ((with_reducible refine grown_setn ?_ ?_ _ _) <;> (first | omega | skip)) | (with_reducible refine grown_below ?_ (by with_reducible assumption)) | (with_reducible refine World.grownBy.trans ?_ (by with_reducible assumption)))), ⟨_, (hD16.set hadb hra).set hadb hra, by omega, by omega⟩, by (repeat' (first | (with_reducible assumption) | (with_reducible refine World.rowIs.alloc ?_ _) | (with_reducible refine World.rowIs.drew ?_) | (with_reducible refine row_put15 ?_ _ _ rfl) | ((with_reducible refine rowIs_other ?_ ?_ _ _) <;> (first | omega | (with_reducible assumption) | skip)) | (with_reducible refine rowIs_below ?_ (by with_reducible assumption)) | ((with_reducible refine rowIs_grown ?_ (by with_reducible assumption) ?_) <;> (first | omega | (with_reducible assumption) | skip)))), row_put15 (l := [.int .i64 (100000 - wi), .int .i64 hi, .int .i64 no, .int .i64 pu, .int .i64 su, .int .i64 tr, .int .i64 rc, .int .i64 sl, .int .i64 li, .int .i64 co, .int .i64 wa, .int .i64 tu, .slice (some ⟨pA, 0, none⟩) 2 2, .slice (some ⟨pI, 0, none⟩) 2 2, .int .i64 bu]) (row_put15 hr16 0 _ rfl (show 0 < 15 by decide)) 1 _ rfl (show 1 < 15 by decide)⟩
    · go_wp2_with fail
      go_meet
      exact ⟨lo, hi, by omega, by omega, by omega, hG16, ⟨at16, hD16, p16, q16⟩, hZ16, hr16⟩
  clear hG16 hD16 hZ16 hr16 p16 q16 hl16 ha16 k1 lo1 lo2 hi1 hi2
  obtain ⟨lo, hi, lo1, hi1, hi2, hG20, ⟨at20, hD20, p20, q20⟩, hZ20, hr20⟩ := hcut
  obtain ⟨w20, rfl⟩ : ∃ x : World, x = wc := ⟨_, rfl⟩
  have k0 : w20.cell? ⟨ab, 0, none⟩ = some (.int .i64 lo) := hr20.cell (by decide)
  have k1 : w20.cell? ⟨ab, 1, none⟩ = some (.int .i64 hi) := hr20.cell (by decide)
  have k2 : w20.cell? ⟨ab, 2, none⟩ = some (.int .i64 no) := hr20.cell (by decide)
  have k3 : w20.cell? ⟨ab, 3, none⟩ = some (.int .i64 pu) := hr20.cell (by decide)
  have k4 : w20.cell? ⟨ab, 4, none⟩ = some (.int .i64 su) := hr20.cell (by decide)
  have k5 : w20.cell? ⟨ab, 5, none⟩ = some (.int .i64 tr) := hr20.cell (by decide)
  have k6 : w20.cell? ⟨ab, 6, none⟩ = some (.int .i64 rc) := hr20.cell (by decide)
  have k7 : w20.cell? ⟨ab, 7, none⟩ = some (.int .i64 sl) := hr20.cell (by decide)
  have k8 : w20.cell? ⟨ab, 8, none⟩ = some (.int .i64 li) := hr20.cell (by decide)
  have k9 : w20.cell? ⟨ab, 9, none⟩ = some (.int .i64 co) := hr20.cell (by decide)
  have k10 : w20.cell? ⟨ab, 10, none⟩ = some (.int .i64 wa) := hr20.cell (by decide)
  have k11 : w20.cell? ⟨ab, 11, none⟩ = some (.int .i64 tu) := hr20.cell (by decide)
  have k12 : w20.cell? ⟨ab, 12, none⟩ = some (.slice (some ⟨pA, 0, none⟩) 2 2) := hr20.cell (by decide)
  have k13 : w20.cell? ⟨ab, 13, none⟩ = some (.slice (some ⟨pI, 0, none⟩) 2 2) := hr20.cell (by decide)
  have k14 : w20.cell? ⟨ab, 14, none⟩ = some (.int .i64 bu) := hr20.cell (by decide)
  have z0 : w20.cell? ⟨w.heap.size, 0, none⟩ = some (.int .i64 0) := hZ20.cell (by decide)
  have y0 := hZ20.frozen 0
  have z1 : w20.cell? ⟨w.heap.size, 1, none⟩ = some (.int .i64 0) := hZ20.cell (by decide)
  have y1 := hZ20.frozen 1
  have z2 : w20.cell? ⟨w.heap.size, 2, none⟩ = some (.int .i64 0) := hZ20.cell (by decide)
  have y2 := hZ20.frozen 2
  have z3 : w20.cell? ⟨w.heap.size, 3, none⟩ = some (.int .i64 0) := hZ20.cell (by decide)
  have y3 := hZ20.frozen 3
  have z4 : w20.cell? ⟨w.heap.size, 4, none⟩ = some (.int .i64 0) := hZ20.cell (by decide)
  have y4 := hZ20.frozen 4
  have z5 : w20.cell? ⟨w.heap.size, 5, none⟩ = some (.int .i64 0) := hZ20.cell (by decide)
  have y5 := hZ20.frozen 5
  have z6 : w20.cell? ⟨w.heap.size, 6, none⟩ = some (.int .i64 0) := hZ20.cell (by decide)
  have y6 := hZ20.frozen 6
  have z7 : w20.cell? ⟨w.heap.size, 7, none⟩ = some (.int .i64 0) := hZ20.cell (by decide)
  have y7 := hZ20.frozen 7
  have z8 : w20.cell? ⟨w.heap.size, 8, none⟩ = some (.int .i64 0) := hZ20.cell (by decide)
  have y8 := hZ20.frozen 8
  have z9 : w20.cell? ⟨w.heap.size, 9, none⟩ = some (.int .i64 0) := hZ20.cell (by decide)
  have y9 := hZ20.frozen 9
  have z10 : w20.cell? ⟨w.heap.size, 10, none⟩ = some (.int .i64 0) := hZ20.cell (by decide)
  have y10 := hZ20.frozen 10
  have z11 : w20.cell? ⟨w.heap.size, 11, none⟩ = some (.int .i64 0) := hZ20.cell (by decide)
  have y11 := hZ20.frozen 11
  have z12 : w20.cell? ⟨w.heap.size, 12, none⟩ = some (.slice none 0 0) := hZ20.cell (by decide)
  have y12 := hZ20.frozen 12
  have z13 : w20.cell? ⟨w.heap.size, 13, none⟩ = some (.slice none 0 0) := hZ20.cell (by decide)
  have y13 := hZ20.frozen 13
  have z14 : w20.cell? ⟨w.heap.size, 14, none⟩ = some (.int .i64 0) := hZ20.cell (by decide)
  have y14 := hZ20.frozen 14
  go_wp2_with fail
  refine bodyPost_ret (v := .agg #[.int .i64 lo, .int .i64 hi, .int .i64 no, .int .i64 pu, .int .i64 su, .int .i64 tr, .int .i64 rc, .int .i64 sl, .int .i64 li, .int .i64 co, .int .i64 wa, .int .i64 tu, .slice (some ⟨pA, 0, none⟩) 2 2, .slice (some ⟨pI, 0, none⟩) 2 2, .int .i64 bu]) ?_ rfl ⟨lo, hi, no, pu, su, tr, rc, sl, li, co, wa, tu, bu, _, _, rfl, by (repeat' (first | (with_reducible exact World.grownBy.refl _ _) | (with_reducible assumption) | (with_reducible refine grown_alloc ?_ _) | (with_reducible refine grown_drew ?_) | ((with_reducible refine grown_setn ?_ ?_ _ _) <;> (first | omega | skip)) | (with_reducible refine grown_below ?_ (by with_reducible assumption)) | (with_reducible refine World.grownBy.trans ?_ (by with_reducible assumption)))), ⟨at20, by (repeat' (first | (with_reducible assumption) | (with_reducible refine DiceOk.alloc ?_ _) | (with_reducible refine DiceOk.drew ?_) | ((with_reducible refine DiceOk.set ?_ ?_ ?_) <;> (try (with_reducible assumption))))), by omega, by omega⟩, by omega, by omega, by omega, by omega, by omega, by omega, by omega, by omega, by omega, by omega, by omega, by omega, by omega, by omega, by omega, by omega, by omega, ⟨by omega, by omega, by omega, by omega, by omega, by omega, by omega, by omega⟩⟩
  simp [results, Try.results138, go_sem, z0, z1, z2, z3, z4, z5, z6, z7, z8, z9, z10, z11, z12, z13, z14]
end Go.Proofs.Ytdfpenjhpemokaa.Sx
/-
  R.CraftFrom: a craft made of raw numbers: what its numbers are at least and at most.
-/
namespace Go.Proofs.Ytdfpenjhpemokaa.Sx
open Go.RowKit
structure Ax where
  lo : Int
  hi : Int
  no : Int
  pu : Int
  su : Int
  tr : Int
  ra : Int
  sl : Int
  li : Int
  co : Int
  wa : Int
  tu : Int
  bu : Int
  pA : Nat
  pI : Nat
def Ax.cells (x : Ax) : List Value := [.int .i64 x.lo, .int .i64 x.hi, .int .i64 x.no, .int .i64 x.pu, .int .i64 x.su, .int .i64 x.tr, .int .i64 x.ra, .int .i64 x.sl, .int .i64 x.li, .int .i64 x.co, .int .i64 x.wa, .int .i64 x.tu, .slice (some ⟨x.pA, 0, none⟩) 2 2, .slice (some ⟨x.pI, 0, none⟩) 2 2, .int .i64 x.bu]
structure Ax.Fine (x : Ax) : Prop where
  su : 2 ≤ x.su ∧ x.su ≤ 4
  tr : 1 ≤ x.tr ∧ x.tr ≤ 1000
  ra : 1 ≤ x.ra ∧ x.ra ≤ x.tr
  sl : 0 ≤ x.sl ∧ x.sl ≤ x.tr
  pu : 0 ≤ x.pu ∧ x.pu ≤ 1000
  no : 0 ≤ x.no ∧ x.no ≤ 1000
  lo : -100000000 ≤ x.lo ∧ x.lo ≤ x.hi ∧ x.hi ≤ 200000000
  wa : 1 ≤ x.wa ∧ x.wa ≤ 10
  co : 1 ≤ x.co ∧ x.co ≤ 10 ∧ 0 ≤ x.li ∧ x.li ≤ 2040 ∧ 0 ≤ x.tu ∧ x.tu ≤ 1000 ∧ 0 ≤ x.bu ∧ x.bu ≤ 65536
theorem Ax.len (x : Ax) : x.cells.length = 15 := rfl
theorem Ax.one (x : Ax) : x.cells.toArray.all (·.oneCell') = true := by simp [Ax.cells, Value.oneCell']
theorem axisFrom (d : Nat) (g : GD) (a : Int) (w : World) (h : DiceOk w d g a) (a0 : 0 ≤ a) (a1 : a ≤ 900000) :
    Calls Try.prog 138 #[.pointer (some ⟨d, 0, none⟩)] w fun e w' => ∃ x : Ax, e = .returned (.agg x.cells.toArray) ∧ x.Fine ∧ w.grownBy w' (some d) ∧ ∃ a', DiceOk w' d g a' ∧ 0 ≤ a' ∧ a' ≤ a + 100 := by
  refine (axisFrom_ok d g a w h a0 a1).mono ?_
  rintro e w' ⟨lo, hi, no, pu, su, tr, ra, sl, li, co, wa, tu, bu, pA, pI, rfl, h1, h2, s1, s2, t1, t2, r1, r2, l1, l2, p1, p2, n1, n2, b1, b2, b3, c1, c2, c3⟩
  exact ⟨⟨lo, hi, no, pu, su, tr, ra, sl, li, co, wa, tu, bu, pA, pI⟩, rfl, ⟨⟨s1, s2⟩, ⟨t1, t2⟩, ⟨r1, r2⟩, ⟨l1, l2⟩, ⟨p1, p2⟩, ⟨n1, n2⟩, ⟨b1, b2, b3⟩, ⟨c1, c2⟩, c3⟩, h1, h2⟩
theorem sizeAxis : (Try.prog.info? 83).map (·.size) = some 15 := by kernel_rfl
theorem sizeCraft : (Try.prog.info? 86).map (·.size) = some 32 := by kernel_rfl
theorem range_grown {w w' : World} {d b o : Nat} {cs : List Value} (h : w.rangeAt b o cs) (hg : w.grownBy w' (some d)) (hne : b ≠ d) : w'.rangeAt b o cs := fun j v hv => cell_grown hg (h j v hv) hne
theorem there_grown {w w' : World} {d b o n : Nat} (h : w.there b o n) (hg : w.grownBy w' (some d)) (hne : b ≠ d) (hl : b < w.heap.size) : w'.there b o n := fun j hj => by
  obtain ⟨h1, h2⟩ := h j hj
  obtain ⟨v, hv⟩ := Option.isSome_iff_exists.1 h1
  exact ⟨by rw [cell_grown hg hv hne]; rfl, frozen_grown hg h2 hl hne⟩
theorem DiceOk.setCells {w : World} {d : Nat} {g : GD} {a : Int} (h : DiceOk w d g a) {b : Nat} (hb : b ≠ d) (hr : ∀ bl off s, g.A = some ⟨bl, off, s⟩ → 0 < g.n → bl ≠ b) (vs : List Value) (o : Nat) : DiceOk (w.setCells b o vs) d g a := by
  induction vs generalizing w o with
  | nil => exact h
  | cons v r ih => exact ih (h.set hb hr) (o + 1)
theorem size_setCells' (w : World) (b : Nat) (vs : List Value) (o : Nat) : (w.setCells b o vs).heap.size = w.heap.size := by
  induction vs generalizing w o with
  | nil => rfl
  | cons v r ih => rw [World.setCells, ih]; simp [World.setCell]
theorem range_app {w : World} {b o : Nat} {xs ys : List Value} (h1 : w.rangeAt b o xs) (h2 : w.rangeAt b (o + xs.length) ys) : w.rangeAt b o (xs ++ ys) := fun j v hv => by
  by_cases hj : j < xs.length
  · rw [List.getElem?_append_left hj] at hv
    exact h1 j v hv
  · rw [List.getElem?_append_right (by omega)] at hv
    have := h2 (j - xs.length) v hv
    rwa [show o + xs.length + (j - xs.length) = o + j by omega] at this
theorem there_new (w : World) (c : Array Value) (t : TypeId) (n : Nat) (hn : c.size = n) : (w.alloc (.cells c t)).there w.heap.size 0 n := fun j hj => by
  rw [Nat.zero_add, World.cell?_alloc_mark, Array.getElem?_eq_getElem (by omega)]
  exact ⟨rfl, frozen_new rfl⟩
theorem there_alloc {w : World} {b o n : Nat} (h : w.there b o n) (hl : b < w.heap.size) (ob : Obj) : (w.alloc ob).there b o n := fun j hj => by
  obtain ⟨h1, h2⟩ := h j hj
  obtain ⟨v, hv⟩ := Option.isSome_iff_exists.1 h1
  exact ⟨by rw [cell_alloc_keep hv]; rfl, frozen_alloc_keep hl h2⟩
theorem there_past {w : World} {c : Array Value} {t : TypeId} {n : Nat} {ob : Obj} (h : (w.alloc (.cells c t)).there w.heap.size 0 n) : ((w.alloc (.cells c t)).alloc ob).there w.heap.size 0 n := there_alloc h (by simp) ob
theorem GD.ok.new {g : GD} {w : World} (h : g.ok w) (o : Obj) : g.ok (w.alloc o) := gd_below' h (Below.alloc (Below.refl _ _) (Nat.le_refl _) _)
theorem dice_new (w : World) (T : TypeId) (d : Nat) (hd : d = w.heap.size) (g : GD) (hk : g.ks = [true]) (hn : g.n ≤ 1000) (o : g.ok w) (hne : ∀ bl off s, g.A = some ⟨bl, off, s⟩ → 0 < g.n → bl ≠ w.heap.size) : DiceOk (w.alloc (.cells #[.slice g.A g.n g.c, .int .i64 0] T)) d g 0 := by
  subst hd
  exact ⟨World.cell?_alloc_mark w _ _ _ 0, World.cell?_alloc_mark w _ _ _ 1, fun o => frozen_new rfl, by simp, o.new _, hne, hk, hn⟩
theorem grown_setCells' (w : World) (b : Nat) (vs : List Value) (o : Nat) : w.grownBy (w.setCells b o vs) (some b) := by
  induction vs generalizing w o with
  | nil => exact World.grownBy.refl _ _
  | cons v r ih => exact (grown_set w b o v).trans (ih _ _)
theorem range_tail {w : World} {b : Nat} {xs ys : List Value} (h : w.rangeAt b 0 (xs ++ ys)) : w.rangeAt b xs.length ys := fun j v hv => by
  have := h (xs.length + j) v (by rw [List.getElem?_append_right (by omega), Nat.add_sub_cancel_left]; exact hv)
  rwa [Nat.zero_add] at this
theorem there_sub {w : World} {b o n o' m : Nat} (h : w.there b o n) (h1 : o ≤ o') (h2 : o' + m ≤ o + n) : w.there b o' m := fun j hj => by
  have := h (o' - o + j) (by omega)
  rwa [show o + (o' - o + j) = o' + j by omega] at this
theorem results_cell1 {fn : Func} {p : Tmp} {ty : TypeId} (h : fn.results = #[.cell p ty]) (tmps : Array Value) (P : Program) (w : World) :
    (results fn tmps).run P w = ((asAddr (tmps.getD p undef)).run P w).andThen fun a w₁ => (loadVar ty a).run P w₁ := by
  simp only [results, h]
  simp [Sem.run_bind, Result.andThen]
def craftL (x y : Ax) (li co : Int) : List Value := x.cells ++ (y.cells ++ [.int .i64 li, .int .i64 co])
set_option maxRecDepth 100000 in
set_option maxHeartbeats 4000000 in
theorem craftFrom (g : GD) (hk : g.ks = [true]) (hn : g.n ≤ 1000) (w : World) (o : g.ok w) :
    Calls Try.prog 63 #[.slice g.A g.n g.c] w fun e w' => ∃ (x y : Ax) (li co : Int), e = .returned (.agg (craftL x y li co).toArray) ∧ x.Fine ∧ y.Fine ∧ 0 ≤ li ∧ li ≤ 99 ∧ 1 ≤ co ∧ co ≤ 10 ∧ Below w.heap.size w w' := by
  have HG := Lib.hid o
  have hraw : ∀ bl off s, g.A = some ⟨bl, off, s⟩ → 0 < g.n → bl < w.heap.size := fun bl off s e hn => by
    obtain ⟨bl', off', e1, e2, _⟩ := o.cell 0 0 hn (by rw [hk]; decide)
    rw [e] at e1
    cases e1
    exact e2
  clear o
  go_enter Try.func63, Try.ntmps63
  go_upto_region 2 with fail
  refine wp_world (fun ω => Below w.heap.size w ω ∧ DiceOk ω (w.heap.size + 1) g 0 ∧ ω.there w.heap.size 0 32 ∧ w.heap.size + 1 < ω.heap.size) ⟨by (repeat' (first | (with_reducible exact Below.refl _ _) | (with_reducible assumption) | (with_reducible refine Below.alloc ?_ ?_ _) | (with_reducible refine Below.drew ?_) | (with_reducible refine below_drewN ?_ _) | (with_reducible refine Below.setCell ?_ ?_ _) | (with_reducible refine Below.trans ?_ (Below.mono (by assumption) ?_)) | omega | (simp; omega) | (simp; done))), dice_new _ _ _ (by simp) g hk hn (HG.out.new _) (fun bl off s e h0 => by have := hraw bl off s e h0; simp; omega), there_past (there_new _ _ _ 32 rfl), by simp⟩ ?_
  rintro w2 ⟨hB2, hD2, hT2, hs2⟩
  generalize hd : w.heap.size + 1 = d at *
  have hd1 : w.heap.size < d := by omega
  clear hd HG
  go_upto_region 3 with (first | (go_at_call 115; ((with_reducible refine (diceN _ _ _ 100 _ hD2 (by omega) (by omega) (by omega) (by omega)).mono ?_); rintro e w5a ⟨va, rfl, hva, hua, hda, hga⟩; have hza := hga.size; (repeat (first | simp only [World.size_alloc] at hza | simp only [World.size_drew] at hza | simp only [World.size_setCell] at hza)))) | (go_at_call 115; ((with_reducible refine (diceN _ _ _ 10 _ hda (by omega) (by omega) (by omega) (by omega)).mono ?_); rintro e w5b ⟨vb, rfl, hvb, hub, hdb, hgb⟩; have hzb := hgb.size; (repeat (first | simp only [World.size_alloc] at hzb | simp only [World.size_drew] at hzb | simp only [World.size_setCell] at hzb)))) | (refine wpList_store_mid (by with_reducible rfl) 86 (.tmp 4) (.tmp 14) (by with_reducible rfl) w5b.heap.size 0 (List.toArray [.int .i64 0, .int .i64 0, .int .i64 0, .int .i64 0, .int .i64 0, .int .i64 0, .int .i64 0, .int .i64 0, .int .i64 0, .int .i64 0, .int .i64 0, .int .i64 0, .slice none 0 0, .slice none 0 0, .int .i64 0, .int .i64 0, .int .i64 0, .int .i64 0, .int .i64 0, .int .i64 0, .int .i64 0, .int .i64 0, .int .i64 0, .int .i64 0, .int .i64 0, .int .i64 0, .int .i64 0, .slice none 0 0, .slice none 0 0, .int .i64 0, .int .i64 va, .int .i64 (1 + vb)]) rfl rfl (there_new _ _ _ 32 rfl) sizeCraft (by simp [Value.oneCell']) ?_) | fail)
  refine wp_world (fun ω => Below w.heap.size w ω ∧ (∃ at', DiceOk ω d g at' ∧ 0 ≤ at' ∧ at' ≤ 2) ∧ ω.there w.heap.size 0 32 ∧ ω.there w5b.heap.size 0 32 ∧ ω.rangeAt w5b.heap.size 30 [.int .i64 va, .int .i64 (1 + vb)] ∧ w5b.heap.size < ω.heap.size) ⟨Below.grown (Below.alloc (Below.grown (Below.grown hB2 hga (by omega) (fun k hk => by cases hk; omega)) hgb (by omega) (fun k hk => by cases hk; omega)) (by omega) _) (grown_setCells' _ w5b.heap.size _ 0) (by simp; omega) (fun k hk => by cases hk; omega), ⟨_, (hdb.alloc _).setCells (by omega) (fun bl off s e h0 => by have := hraw bl off s e h0; omega) _ 0, by omega, by omega⟩, World.there_setCells (there_alloc (there_grown (there_grown hT2 hga (by omega) (by omega)) hgb (by omega) (by omega)) (by omega) _) _ _ _, World.there_setCells (there_new _ _ _ 32 rfl) _ _ _, range_tail (xs := [.int .i64 0, .int .i64 0, .int .i64 0, .int .i64 0, .int .i64 0, .int .i64 0, .int .i64 0, .int .i64 0, .int .i64 0, .int .i64 0, .int .i64 0, .int .i64 0, .slice none 0 0, .slice none 0 0, .int .i64 0, .int .i64 0, .int .i64 0, .int .i64 0, .int .i64 0, .int .i64 0, .int .i64 0, .int .i64 0, .int .i64 0, .int .i64 0, .int .i64 0, .int .i64 0, .int .i64 0, .slice none 0 0, .slice none 0 0, .int .i64 0]) (ys := [.int .i64 va, .int .i64 (1 + vb)]) (World.rangeAt_setCells_same _ _ 0 _ (there_new _ _ _ 32 rfl)), by rw [size_setCells']; simp⟩ ?_
  have hcb : d < w5b.heap.size := by omega
  clear hB2 hD2 hT2 hs2 hda hga hza hdb hgb hzb
  rintro w3 ⟨hB3, ⟨a3, hD3, p3, q3⟩, hT3, hC3, hR3, hs3⟩
  generalize w5b.heap.size = cb at *
  have hrc : ∀ bl off s, g.A = some ⟨bl, off, s⟩ → 0 < g.n → bl ≠ cb := fun bl off s e h0 => by have := hraw bl off s e h0; omega
  have hrz : ∀ bl off s, g.A = some ⟨bl, off, s⟩ → 0 < g.n → bl ≠ w.heap.size := fun bl off s e h0 => by have := hraw bl off s e h0; omega
  have hcd : cb ≠ d := by omega
  have hwd : w.heap.size ≠ d := by omega
  go_wp2_with fail
  refine wp_loop_rounds 3 ?_
  rw [rounds_succ]
  go_upto_region 6 with fail
  go_upto_region 5 with (first | (go_at_call 138; ((with_reducible refine (axisFrom _ _ _ _ hD3 (by omega) (by omega)).mono ?_); rintro e w5x ⟨x, rfl, hx, hgx, ax, hDx, px, qx⟩; have hzx := hgx.size; have hCx := there_grown hC3 hgx hcd hs3)) | (refine wpList_store_mid (by with_reducible rfl) 83 (.tmp 23) (.tmp 21) (by with_reducible rfl) cb 0 x.cells.toArray (by rfl) (by rfl) (there_sub hCx (by omega) (by show 0 + 15 ≤ 0 + 32; omega)) sizeAxis x.one ?_) | fail)
  refine wp_world (fun ω => Below w.heap.size w ω ∧ (∃ at', DiceOk ω d g at' ∧ 0 ≤ at' ∧ at' ≤ 102) ∧ ω.there w.heap.size 0 32 ∧ ω.there cb 0 32 ∧ ω.rangeAt cb 30 [.int .i64 va, .int .i64 (1 + vb)] ∧ ω.rangeAt cb 0 x.cells ∧ cb < ω.heap.size) ⟨Below.grown (Below.grown hB3 hgx (by omega) (fun k hk => by cases hk; omega)) (grown_setCells' _ cb _ 0) (by omega) (fun k hk => by cases hk; omega), ⟨ax, hDx.setCells hcd hrc _ 0, by omega, by omega⟩, World.there_setCells (there_grown hT3 hgx (by omega) (by omega)) _ _ _, World.there_setCells hCx _ _ _, World.rangeAt_setCells_apart (range_grown hR3 hgx hcd) cb 0 _ (.inr (.inr (by show 0 + 15 ≤ 30; omega))), World.rangeAt_setCells_same _ _ 0 _ (there_sub hCx (by omega) (by show 0 + 15 ≤ 0 + 32; omega)), by rw [size_setCells']; omega⟩ ?_
  clear hB3 hD3 hT3 hC3 hR3 hs3 p3 q3 hgx hDx hzx hCx px qx
  rintro w4 ⟨hB4, ⟨a4, hD4, p4, q4⟩, hT4, hC4, hR4, hX4, hs4⟩
  go_wp2_with fail
  rw [rounds_succ]
  go_upto_region 6 with fail
  go_upto_region 5 with (first | (go_at_call 138; ((with_reducible refine (axisFrom _ _ _ _ hD4 (by omega) (by omega)).mono ?_); rintro e w5y ⟨y, rfl, hy, hgy, ay, hDy, py, qy⟩; have hzy := hgy.size; have hCy := there_grown hC4 hgy hcd hs4)) | (refine wpList_store_mid (by with_reducible rfl) 83 (.tmp 23) (.tmp 21) (by with_reducible rfl) cb 15 y.cells.toArray (by rfl) (by rfl) (there_sub hCy (by omega) (by show 15 + 15 ≤ 0 + 32; omega)) sizeAxis y.one ?_) | fail)
  refine wp_world (fun ω => Below w.heap.size w ω ∧ ω.there w.heap.size 0 32 ∧ ω.rangeAt cb 0 (craftL x y va (1 + vb)) ∧ w.heap.size < ω.heap.size) ⟨Below.grown (Below.grown hB4 hgy (by omega) (fun k hk => by cases hk; omega)) (grown_setCells' _ cb _ 15) (by omega) (fun k hk => by cases hk; omega), World.there_setCells (there_grown hT4 hgy (by omega) (by omega)) _ _ _, range_app (World.rangeAt_setCells_apart (range_grown hX4 hgy hcd) cb 15 _ (.inr (.inl (by show 0 + 15 ≤ 15; omega)))) (range_app (World.rangeAt_setCells_same _ _ 15 _ (there_sub hCy (by omega) (by show 15 + 15 ≤ 0 + 32; omega))) (World.rangeAt_setCells_apart (range_grown hR4 hgy hcd) cb 15 _ (.inr (.inr (by show 15 + 15 ≤ 30; omega))))), by rw [size_setCells']; omega⟩ ?_
  clear hB4 hD4 hT4 hC4 hR4 hX4 hs4 p4 q4 hgy hDy hzy hCy py qy
  rintro w6 ⟨hB6, hT6, hX6, hs6⟩
  go_wp2_with fail
  rw [rounds_succ]
  go_upto_region 7 with fail
  go_wp2_with (first | (refine wpList_load_mid (by with_reducible rfl) 86 (.tmp 4) (by with_reducible rfl) cb 0 (by rfl) (craftL x y va (1 + vb)) _ hX6 Try.underlying86 rfl sizeCraft ?_) | (refine wpList_store_mid (by with_reducible rfl) 86 (.tmp 2) (.tmp 24) (by with_reducible rfl) w.heap.size 0 (craftL x y va (1 + vb)).toArray (by rfl) (by rfl) hT6 sizeCraft (by simp [craftL, Ax.cells, Value.oneCell']) ?_) | fail)
  have hld := run_loadVar_mid (P := Try.prog) (w6.setCells w.heap.size 0 (craftL x y va (1 + vb))) w.heap.size 0 86 (craftL x y va (1 + vb)) _ (World.rangeAt_setCells_same _ _ 0 _ hT6) Try.underlying86 rfl sizeCraft
  refine bodyPost_ret (v := .agg (craftL x y va (1 + vb)).toArray) ?_ rfl ⟨x, y, va, 1 + vb, rfl, hx, hy, by omega, by omega, by omega, by omega, Below.grown hB6 (grown_setCells' _ w.heap.size _ 0) (by omega) (fun k hk => by cases hk; omega)⟩
  rw [results_cell1 Try.results63]
  simp only [Act.put]
  simp [asAddr, Result.andThen, hld]
end Go.Proofs.Ytdfpenjhpemokaa.Sx
/-
  R.ActRule and R.ServosFrom: contracts.
-/
namespace Go.Proofs.Ytdfpenjhpemokaa.Sx
open Go.RowKit
theorem ownsRow_grown {w w' : World} {d base : Nat} {e : TypeId} {size : Nat} {v : Value} {n : Nat} {xs : List Value} (h : w.ownsRow base e size v n xs) (hg : w.grownBy w' (some d)) (hd : d < base) : w'.ownsRow base e size v n xs := by
  obtain ⟨h1, h2⟩ := h
  refine ⟨h1, ?_⟩
  rcases h2 with h2 | ⟨g, cap, cur, hv, hb, hh, r⟩
  · exact .inl h2
  · exact .inr ⟨g, cap, cur, hv, hb, by rw [hg.block g (Array.getElem?_eq_some_iff.1 hh).1 (fun e => by cases e; omega)]; exact hh, r⟩
theorem grown_own {w w1 w2 : World} {d : Nat} {r : Option Nat} (h : w.grownBy w1 (some d)) (hg : w1.grownBy w2 r) (hr : ∀ q, r = some q → w.heap.size ≤ q) : w.grownBy w2 (some d) :=
  ⟨hg.os.trans h.os, hg.tape.trans h.tape, hg.output.trans h.output, Nat.le_trans h.size hg.size, fun k hk hne => (hg.block k (Nat.lt_of_lt_of_le hk h.size) (fun e => by have := hr k e.symm; omega)).trans (h.block k hk hne)⟩
theorem DiceOk.far {w w' : World} {d : Nat} {g : GD} {a : Int} (h : DiceOk w d g a) {r : Option Nat} (hg : w.grownBy w' r) (hd : ∀ q, r = some q → d < q) (hr : ∀ bl off s, g.A = some ⟨bl, off, s⟩ → 0 < g.n → ∀ q, r = some q → bl < q) : DiceOk w' d g a := by
  have hne : some d ≠ r := fun e => absurd (hd d e.symm) (by omega)
  have hok : g.ok w' := by
    cases r with
    | none => exact gd_grown (d := w.heap.size) h.ok ⟨hg.os, hg.tape, hg.output, hg.size, fun k hk _ => hg.block k hk (by simp)⟩ (fun bl off s e hn => by have := h.raw bl off s e hn; omega)
    | some q => exact gd_grown h.ok hg (fun bl off s e hn => by have := hr bl off s e hn q rfl; omega)
  exact ⟨hg.cell h.c0 hne, hg.cell h.c1 hne, fun o => (hg.frozen_far ⟨d, o, none⟩ h.lt hne).trans (h.f o), Nat.lt_of_lt_of_le h.lt hg.size, hok, h.ne, h.ks, h.n⟩
end Go.Proofs.Ytdfpenjhpemokaa.Sx
