/-
  R.axisFrom: an axis made of raw numbers: what its numbers are at least and at most.
-/
import Derived.Test.YtdfpenjhpemokaaDice
import Derived.Test.YtdfpenjhpemokaaGuard
import Derived.Deep.DeepCutAuto
set_option linter.unusedVariables false
set_option linter.unusedSimpArgs false
namespace Go.Proofs.Ytdfpenjhpemokaa.Sx
open Go.RowKit
theorem diceCells3 (w : World) (x y z : Int) (t : TypeId) (b : Nat) (hb : b = w.heap.size) : ∀ k, k < 3 → (w.alloc (.cells #[.int .i64 x, .int .i64 y, .int .i64 z] t)).cell? ⟨b, k, none⟩ = some (.int .i64 ([x, y, z][k]?.getD 0)) := by
  subst hb
  intro k hk
  rw [World.cell?_alloc_mark]
  match k, hk with
  | 0, _ => rfl
  | 1, _ => rfl
  | 2, _ => rfl
theorem diceCells2 (w : World) (x y : Int) (t : TypeId) (b : Nat) (hb : b = w.heap.size) : ∀ k, k < 2 → (w.alloc (.cells #[.int .i64 x, .int .i64 y] t)).cell? ⟨b, k, none⟩ = some (.int .i64 ([x, y][k]?.getD 0)) := by
  subst hb
  intro k hk
  rw [World.cell?_alloc_mark]
  match k, hk with
  | 0, _ => rfl
  | 1, _ => rfl
theorem diceCells3d (w : World) (x y z : Int) (t : TypeId) (b : Nat) (hb : b = w.heap.size) : ∀ k, k < 3 → (w.alloc (.cells #[.int .i64 x, .int .i64 y, .int .i64 z] t)).drew.cell? ⟨b, k, none⟩ = some (.int .i64 ([x, y, z][k]?.getD 0)) := diceCells3 w x y z t b hb
theorem grown_alloc {w x : World} {r : Option Nat} (h : w.grownBy x r) (o : Obj) : w.grownBy (x.alloc o) r := h.trans (World.grownBy_alloc x o r)
theorem grown_drew {w x : World} {r : Option Nat} (h : w.grownBy x r) : w.grownBy x.drew r := ⟨h.os, h.tape, h.output, h.size, h.block⟩
theorem grown_setn {w x : World} {r : Option Nat} (h : w.grownBy x r) {b : Nat} (hb : w.heap.size ≤ b) (i : Nat) (v : Value) : w.grownBy (x.setCell ⟨b, i, none⟩ v) r :=
  ⟨h.os, h.tape, h.output, by simpa [World.setCell] using h.size, fun k hk hne => (Below.heap_setCell _ _ _ _ (by show k ≠ b; omega)).trans (h.block k hk hne)⟩
theorem grown_below {w x y : World} {r : Option Nat} (h : w.grownBy x r) (hb : Below x.heap.size x y) : w.grownBy y r :=
  ⟨hb.os.trans h.os, hb.tape.trans h.tape, hb.output.trans h.output, Nat.le_trans h.size hb.size, fun k hk hne => (hb.block k (Nat.lt_of_lt_of_le hk h.size)).trans (h.block k hk hne)⟩
theorem rowIs_below {w w' : World} {b : Nat} {t : TypeId} {n : Nat} {f : Nat → Value} (h : w.rowIs b t n f) (hb : Below w.heap.size w w') : w'.rowIs b t n f := h.of_block (hb.block b h.lt)
def axv (l : List Value) : Nat → Value := fun j => l[j]?.getD (.bool false)
theorem row_put15 {w : World} {b : Nat} {t : TypeId} {n : Nat} {l l' : List Value} (h : w.rowIs b t n (axv l)) (i : Nat) (v : Value) (hl : l' = l.set i v) (hi : i < l.length) : (w.setCell ⟨b, i, none⟩ v).rowIs b t n (axv l') := by
  subst hl
  obtain ⟨c, h1, h2, h3⟩ := h
  refine (World.rowIs.set ⟨c, h1, h2, h3⟩ i v).congr fun j hj => ?_
  unfold axv
  by_cases e : j = i
  · subst e
    rw [if_pos rfl, List.getElem?_set_self hi]
    rfl
  · rw [if_neg e, List.getElem?_set_ne (fun h => e h.symm)]
theorem rowIs_other {w : World} {b b' : Nat} {t : TypeId} {n : Nat} {f : Nat → Value} (h : w.rowIs b t n f) (hne : b ≠ b') (i : Nat) (v : Value) : (w.setCell ⟨b', i, none⟩ v).rowIs b t n f := h.setOther hne v
theorem rowIs_grown {w w' : World} {b d : Nat} {t : TypeId} {n : Nat} {f : Nat → Value} (h : w.rowIs b t n f) (hg : w.grownBy w' (some d)) (hne : b ≠ d) : w'.rowIs b t n f := h.of_block (hg.block b h.lt (fun hc => hne (by simpa using hc)))
theorem row_new (w : World) (l : List Value) (t : TypeId) : (w.alloc (.cells l.toArray t)).rowIs w.heap.size t l.length (axv l) :=
  World.rowIs_alloc w l.toArray t (axv l) (fun i hi => by
    have hi' : i < l.length := by simpa using hi
    unfold axv
    rw [List.getElem?_toArray, List.getElem?_eq_getElem hi']
    rfl)
theorem DiceOk.raw {w : World} {d : Nat} {g : GD} {a : Int} (h : DiceOk w d g a) : ∀ bl off s, g.A = some ⟨bl, off, s⟩ → 0 < g.n → bl < w.heap.size := fun bl off s e hn => by
  obtain ⟨bl', off', e1, e2, _⟩ := h.ok.cell 0 0 hn (by rw [h.ks]; decide)
  rw [e] at e1
  cases e1
  exact e2
theorem cell_grown {x w' : World} {d : Nat} {a : Addr} {v : Value} (hg : x.grownBy w' (some d)) (h : x.cell? a = some v) (hne : a.block ≠ d) : w'.cell? a = some v := hg.cell h (by simpa using hne)
theorem frozen_grown {x w' : World} {d : Nat} {a : Addr} (hg : x.grownBy w' (some d)) (h : x.frozen? a = false) (hlt : a.block < x.heap.size) (hne : a.block ≠ d) : w'.frozen? a = false := (hg.frozen_far a hlt (by simpa using hne)).trans h
theorem su_mul {su x : Int} (h1 : 2 ≤ su) (h2 : su ≤ 4) (hx : 0 ≤ x) : x ≤ (su - 1) * x ∧ (su - 1) * x ≤ 3 * x := by
  have e1 := Int.mul_le_mul_of_nonneg_right (show (1 : Int) ≤ su - 1 by omega) hx
  have e2 := Int.mul_le_mul_of_nonneg_right (show su - 1 ≤ (3 : Int) by omega) hx
  rw [Int.one_mul] at e1
  exact ⟨e1, e2⟩
theorem refBrake_as (lo hi noise push most rate s bk : Int) (w : World) (hr : 1 ≤ rate) (hr2 : rate ≤ 4000) (h0 : -10000 ≤ s) (h1 : s + push ≤ 6000) (hp : 0 ≤ push) (hp2 : push ≤ 2000) (h : pbrake push rate s = bk) :
    Calls Try.prog 134 #[.agg #[.int .i64 lo, .int .i64 hi, .int .i64 noise, .int .i64 push, .int .i64 most, .int .i64 rate], .int .i64 s] w fun e w' => e = .returned (.int .i64 bk) ∧ Below w.heap.size w w' := by
  refine (refBrake lo hi noise push most rate s w hr hr2 h0 h1 hp hp2).mono ?_
  rintro e w' ⟨h2, rfl⟩
  exact ⟨by rw [h2, h], Below.alloc (Below.refl _ _) (Nat.le_refl _) _⟩
set_option maxRecDepth 100000 in
set_option maxHeartbeats 1000000 in
theorem refGuardRule (lo hi no pu su tr ra sl li co wa tu bu ps mo gr : Int) (gA gI : Value) (w : World) (b1 : 2 ≤ su) (b2 : su ≤ 4) (h1 : IntKind.wrap .i64 (pu + sl) = ps) (h2 : IntKind.wrap .i64 ((su - 1) * tr) = mo) (h3 : IntKind.wrap .i64 ((su - 1) * ra) = gr) :
    Calls Try.prog 62 #[.agg #[.int .i64 lo, .int .i64 hi, .int .i64 no, .int .i64 pu, .int .i64 su, .int .i64 tr, .int .i64 ra, .int .i64 sl, .int .i64 li, .int .i64 co, .int .i64 wa, .int .i64 tu, gA, gI, .int .i64 bu]] w fun e w' => e = .returned (.agg #[.int .i64 lo, .int .i64 hi, .int .i64 no, .int .i64 ps, .int .i64 mo, .int .i64 gr]) ∧ Below w.heap.size w w' := by
  go_enter Try.func62, Try.ntmps62
  go_wp2_with fail
  refine bodyPost_ret (v := .agg #[.int .i64 lo, .int .i64 hi, .int .i64 no, .int .i64 ps, .int .i64 mo, .int .i64 gr]) ?_ rfl ⟨rfl, by (repeat' (first | (with_reducible exact Below.refl _ _) | (with_reducible assumption) | (with_reducible refine Below.alloc ?_ ?_ _) | (with_reducible refine Below.drew ?_) | (with_reducible refine below_drewN ?_ _) | (with_reducible refine Below.setCell ?_ ?_ _) | (with_reducible refine Below.trans ?_ (Below.mono (by assumption) ?_)) | omega | (simp; omega) | (simp; done)))⟩
  simp [results, Try.results62, go_sem]
set_option maxRecDepth 100000 in
set_option maxHeartbeats 4000000 in
theorem axisFrom_ok (d : Nat) (g : GD) (a : Int) (w : World) (h : DiceOk w d g a) (a0 : 0 ≤ a) (a1 : a ≤ 900000) :
    Calls Try.prog 138 #[.pointer (some ⟨d, 0, none⟩)] w fun e w' => ∃ (lo hi no pu su tr ra sl li co wa tu bu : Int) (pA pI : Nat), e = .returned (.agg #[.int .i64 lo, .int .i64 hi, .int .i64 no, .int .i64 pu, .int .i64 su, .int .i64 tr, .int .i64 ra, .int .i64 sl, .int .i64 li, .int .i64 co, .int .i64 wa, .int .i64 tu, .slice (some ⟨pA, 0, none⟩) 2 2, .slice (some ⟨pI, 0, none⟩) 2 2, .int .i64 bu]) ∧ w.grownBy w' (some d) ∧ (∃ a', DiceOk w' d g a' ∧ 0 ≤ a' ∧ a' ≤ a + 100) ∧ 2 ≤ su ∧ su ≤ 4 ∧ 1 ≤ tr ∧ tr ≤ 1000 ∧ 1 ≤ ra ∧ ra ≤ tr ∧ 0 ≤ sl ∧ sl ≤ tr ∧ 0 ≤ pu ∧ pu ≤ 1000 ∧ 0 ≤ no ∧ no ≤ 1000 ∧ -100000000 ≤ lo ∧ lo ≤ hi ∧ hi ≤ 200000000 ∧ 1 ≤ wa ∧ wa ≤ 10 ∧ (1 ≤ co ∧ co ≤ 10 ∧ 0 ≤ li ∧ li ≤ 2040 ∧ 0 ≤ tu ∧ tu ≤ 1000 ∧ 0 ≤ bu ∧ bu ≤ 65536) := by
  have hdl := h.lt
  have hraw := h.raw
  have HD := Lib.hid h
  have hwd0 : w.heap.size ≠ d := by omega
  have hrz : ∀ bl off s, g.A = some ⟨bl, off, s⟩ → 0 < g.n → bl ≠ w.heap.size := fun bl off s e hn => by have := h.raw bl off s e hn; omega
  clear h
  go_enter Try.func138, Try.ntmps138
  go_upto_region 1 with fail
  refine wp_world (fun ω => w.grownBy ω (some d) ∧ (∃ at', DiceOk ω d g at' ∧ 0 ≤ at' ∧ at' ≤ a + 0) ∧ ω.rowIs w.heap.size 83 15 (axv [.int .i64 0, .int .i64 0, .int .i64 0, .int .i64 0, .int .i64 0, .int .i64 0, .int .i64 0, .int .i64 0, .int .i64 0, .int .i64 0, .int .i64 0, .int .i64 0, .slice none 0 0, .slice none 0 0, .int .i64 0])) ⟨by (repeat' (first | (with_reducible exact World.grownBy.refl _ _) | (with_reducible assumption) | (with_reducible refine grown_alloc ?_ _) | (with_reducible refine grown_drew ?_) | ((with_reducible refine grown_setn ?_ ?_ _ _) <;> (first | omega | skip)) | (with_reducible refine grown_below ?_ (by with_reducible assumption)) | (with_reducible refine World.grownBy.trans ?_ (by with_reducible assumption)))), ⟨_, HD.out.alloc _, by omega, by omega⟩, row_new w [.int .i64 0, .int .i64 0, .int .i64 0, .int .i64 0, .int .i64 0, .int .i64 0, .int .i64 0, .int .i64 0, .int .i64 0, .int .i64 0, .int .i64 0, .int .i64 0, .slice none 0 0, .slice none 0 0, .int .i64 0] _⟩ ?_
  clear HD
  rintro w0 ⟨hG0, ⟨at0, hD0, p0, q0⟩, hZ0⟩
  have hl0 := hZ0.lt
  go_upto_region 2 with (first | (go_at_call 115; ((with_reducible refine (diceN _ _ _ 3 _ hD0 (by omega) (by omega) (by omega) (by omega)).mono ?_); rintro e w5a ⟨va, rfl, hva, hua, hda, hga⟩; have hza := hga.size; (repeat (first | simp only [World.size_alloc] at hza | simp only [World.size_drew] at hza | simp only [World.size_setCell] at hza)))) | (go_at_call 116; ((with_reducible refine (diceMost _ _ _ _ 3 _ [4, 60, 1000] _ (hda.alloc _) (by omega) (by omega) rfl (by omega) (by omega) (by omega) (by simp) (diceCells3 _ 4 60 1000 _ _ rfl)).mono ?_); rintro e w5b ⟨vb, rfl, hyb, hdb, hgb⟩; have hvb : 4 ≤ vb ∧ vb ≤ 1000 := (by simp only [List.mem_cons, List.not_mem_nil, or_false] at hyb; omega); clear hyb; have hzb := hgb.size; (repeat (first | simp only [World.size_alloc] at hzb | simp only [World.size_drew] at hzb | simp only [World.size_setCell] at hzb)))) | (go_at_call 115; ((with_reducible refine (diceN _ _ _ vb _ hdb (by omega) (by omega) (by omega) (by omega)).mono ?_); rintro e w5c ⟨vc, rfl, hvc, huc, hdc, hgc⟩; have hzc := hgc.size; (repeat (first | simp only [World.size_alloc] at hzc | simp only [World.size_drew] at hzc | simp only [World.size_setCell] at hzc)))) | fail)
  refine wp_world (fun ω => w.grownBy ω (some d) ∧ (∃ at', DiceOk ω d g at' ∧ 0 ≤ at' ∧ at' ≤ a + 10) ∧ ω.rowIs w.heap.size 83 15 (axv [.int .i64 0, .int .i64 0, .int .i64 0, .int .i64 0, .int .i64 0, .int .i64 0, .int .i64 0, .int .i64 0, .int .i64 0, .int .i64 0, .int .i64 0, .int .i64 0, .slice none 0 0, .slice none 0 0, .int .i64 0]) ∧ ω.rowIs w5c.heap.size 83 15 (axv [.int .i64 0, .int .i64 0, .int .i64 0, .int .i64 0, .int .i64 (2 + va), .int .i64 (1 + vc), .int .i64 0, .int .i64 0, .int .i64 0, .int .i64 0, .int .i64 0, .int .i64 0, .slice none 0 0, .slice none 0 0, .int .i64 0])) ⟨by (repeat' (first | (with_reducible exact World.grownBy.refl _ _) | (with_reducible assumption) | (with_reducible refine grown_alloc ?_ _) | (with_reducible refine grown_drew ?_) | ((with_reducible refine grown_setn ?_ ?_ _ _) <;> (first | omega | skip)) | (with_reducible refine grown_below ?_ (by with_reducible assumption)) | (with_reducible refine World.grownBy.trans ?_ (by with_reducible assumption)))), ⟨_, hdc.alloc _, by omega, by omega⟩, by (repeat' (first | (with_reducible assumption) | (with_reducible refine World.rowIs.alloc ?_ _) | (with_reducible refine World.rowIs.drew ?_) | (with_reducible refine row_put15 ?_ _ _ rfl) | ((with_reducible refine rowIs_other ?_ ?_ _ _) <;> (first | omega | (with_reducible assumption) | skip)) | (with_reducible refine rowIs_below ?_ (by with_reducible assumption)) | ((with_reducible refine rowIs_grown ?_ (by with_reducible assumption) ?_) <;> (first | omega | (with_reducible assumption) | skip)))), row_new _ [.int .i64 0, .int .i64 0, .int .i64 0, .int .i64 0, .int .i64 (2 + va), .int .i64 (1 + vc), .int .i64 0, .int .i64 0, .int .i64 0, .int .i64 0, .int .i64 0, .int .i64 0, .slice none 0 0, .slice none 0 0, .int .i64 0] _⟩ ?_
  clear hG0 hD0 hZ0 hda hdb hdc hga hgb hgc p0 q0
  rintro w1 ⟨hG1, ⟨at1, hD1, p1, q1⟩, hZ1, hr1⟩
  have hl1 := hZ1.lt
  have hab : w.heap.size < w5c.heap.size := by omega
  clear hza hzb hzc hl0
  generalize w5c.heap.size = ab at *
  have hra : ∀ bl off s, g.A = some ⟨bl, off, s⟩ → 0 < g.n → bl ≠ ab := fun bl off s e hn => by have := hraw bl off s e hn; omega
  have hadb : ab ≠ d := by omega
  have habw : w.heap.size ≤ ab := by omega
  have hwab : w.heap.size ≠ ab := by omega
  obtain ⟨su, hsu⟩ : ∃ su, su = 2 + va := ⟨_, rfl⟩
  obtain ⟨tr, htr⟩ : ∃ tr, tr = 1 + vc := ⟨_, rfl⟩
  rw [← hsu, ← htr] at hr1
  have su1 : 2 ≤ su := by omega
  have su2 : su ≤ 4 := by omega
  have tr1 : 1 ≤ tr := by omega
  have tr2 : tr ≤ 1000 := by omega
  clear hva hua hvb hvc huc hsu htr
  have k5 : w1.cell? ⟨ab, 5, none⟩ = some (.int .i64 tr) := hr1.cell (by decide)
  have s6 : w1.cell? ⟨ab, 6, none⟩ = some (.int .i64 0) := hr1.cell (by decide)
  have f6 := hr1.frozen 6
  have hab1 := hr1.lt
  go_upto_region 3 with (first | (go_at_call 115; ((with_reducible refine (diceN _ _ _ tr _ hD1 (by omega) (by omega) (by omega) (by omega)).mono ?_); rintro e w5a ⟨va, rfl, hva, hua, hda, hga⟩; have s6a := cell_grown hga s6 hadb; have f6a := (hga.frozen_far ⟨ab, 6, none⟩ hab1 (by simpa using hadb)).trans f6; have hza := hga.size; (repeat (first | simp only [World.size_alloc] at hza | simp only [World.size_drew] at hza | simp only [World.size_setCell] at hza)))) | fail)
  refine wp_world (fun ω => w.grownBy ω (some d) ∧ (∃ at', DiceOk ω d g at' ∧ 0 ≤ at' ∧ at' ≤ a + 11) ∧ ω.rowIs w.heap.size 83 15 (axv [.int .i64 0, .int .i64 0, .int .i64 0, .int .i64 0, .int .i64 0, .int .i64 0, .int .i64 0, .int .i64 0, .int .i64 0, .int .i64 0, .int .i64 0, .int .i64 0, .slice none 0 0, .slice none 0 0, .int .i64 0]) ∧ ω.rowIs ab 83 15 (axv [.int .i64 0, .int .i64 0, .int .i64 0, .int .i64 0, .int .i64 su, .int .i64 tr, .int .i64 (1 + va), .int .i64 0, .int .i64 0, .int .i64 0, .int .i64 0, .int .i64 0, .slice none 0 0, .slice none 0 0, .int .i64 0])) ⟨by (repeat' (first | (with_reducible exact World.grownBy.refl _ _) | (with_reducible assumption) | (with_reducible refine grown_alloc ?_ _) | (with_reducible refine grown_drew ?_) | ((with_reducible refine grown_setn ?_ ?_ _ _) <;> (first | omega | skip)) | (with_reducible refine grown_below ?_ (by with_reducible assumption)) | (with_reducible refine World.grownBy.trans ?_ (by with_reducible assumption)))), ⟨_, hda.set hadb hra, by omega, by omega⟩, by (repeat' (first | (with_reducible assumption) | (with_reducible refine World.rowIs.alloc ?_ _) | (with_reducible refine World.rowIs.drew ?_) | (with_reducible refine row_put15 ?_ _ _ rfl) | ((with_reducible refine rowIs_other ?_ ?_ _ _) <;> (first | omega | (with_reducible assumption) | skip)) | (with_reducible refine rowIs_below ?_ (by with_reducible assumption)) | ((with_reducible refine rowIs_grown ?_ (by with_reducible assumption) ?_) <;> (first | omega | (with_reducible assumption) | skip)))), row_put15 (rowIs_grown (hr1) hga hadb) 6 _ rfl (show 6 < 15 by decide)⟩ ?_
  clear hG1 hD1 hZ1 hr1 hda hga hza p1 q1 k5 s6 f6 s6a f6a hab1 hl1
  rintro w2 ⟨hG2, ⟨at2, hD2, p2, q2⟩, hZ2, hr2⟩
  have hl2 := hZ2.lt
  have ha2 := hr2.lt
  obtain ⟨ra, raq⟩ : ∃ x, x = 1 + va := ⟨_, rfl⟩
  rw [← raq] at hr2
  have ra1 : 1 ≤ ra := by omega
  have ra2 : ra ≤ tr := by omega
  clear raq hva hua
  have k4 : w2.cell? ⟨ab, 4, none⟩ = some (.int .i64 su) := hr2.cell (by decide)
  have k5 : w2.cell? ⟨ab, 5, none⟩ = some (.int .i64 tr) := hr2.cell (by decide)
  have k6 : w2.cell? ⟨ab, 6, none⟩ = some (.int .i64 ra) := hr2.cell (by decide)
  have M1 := su_mul su1 su2 (show 0 ≤ tr by omega)
  have M2 := su_mul su1 su2 (show 0 ≤ ra by omega)
  obtain ⟨mo, hmo⟩ : ∃ x, x = (su - 1) * tr := ⟨_, rfl⟩
  obtain ⟨gr, hgr⟩ : ∃ x, x = (su - 1) * ra := ⟨_, rfl⟩
  rw [← hmo] at M1
  rw [← hgr] at M2
  have hm1 : IntKind.wrap .i64 ((su - 1) * tr) = mo := by rw [← hmo]; exact IntWalk.i64_in _ ⟨by omega, by omega⟩
  have hm2 : IntKind.wrap .i64 ((su - 1) * ra) = gr := by rw [← hgr]; exact IntWalk.i64_in _ ⟨by omega, by omega⟩
  have HMO := Lib.hid hmo
  have HGR := Lib.hid hgr
  clear hmo hgr
  go_upto_region 5 with fail
  generalize hcan : (if (1000 : Int) < gr then (1000 : Int) else gr) = can at *
  have can1 : 1 ≤ can := by rw [← hcan]; split <;> omega
  have can2 : can ≤ 1000 := by rw [← hcan]; split <;> omega
  have can3 : can ≤ gr := by rw [← hcan]; split <;> omega
  clear hcan
  have s7 : w2.cell? ⟨ab, 7, none⟩ = some (.int .i64 0) := hr2.cell (by decide)
  have f7 := hr2.frozen 7
  have hab2 := hr2.lt
  go_region_held3 (fun ω => ω.cell? ⟨ab, 5, none⟩ = some (.int .i64 tr)) (repeat' (first | (with_reducible assumption) | (with_reducible refine cell_alloc_keep ?_) | (with_reducible refine cell_drew_keep ?_) | (with_reducible refine cell_drewN_keep ?_) | (with_reducible refine cell_grown (by with_reducible assumption) ?_ hadb) | ((with_reducible refine cell_set_off ?_ ?_) <;> (first | (with_reducible assumption) | (focus (simp; done)) | omega | skip)))) (first | (go_at_call 116; ((with_reducible refine (diceMost _ _ _ _ 3 _ [1, 10, 1000] _ (hD2.alloc _).drew (by omega) (by omega) rfl (by omega) (by omega) (by omega) (by simp only [World.size_drew, World.size_alloc]; omega) (diceCells3d _ 1 10 1000 _ _ rfl)).mono ?_); rintro e w5a ⟨va, rfl, hya, hda, hga⟩; have hva : 1 ≤ va ∧ va ≤ 1000 := (by simp only [List.mem_cons, List.not_mem_nil, or_false] at hya; omega); clear hya; obtain ⟨m3, hm3⟩ : ∃ x : Int, x = (if va < (if can < tr then can else tr) then va else (if can < tr then can else tr)) := ⟨_, rfl⟩; have hb3 : 1 ≤ m3 ∧ m3 ≤ can ∧ m3 ≤ tr := (by rw [hm3]; (repeat' split) <;> omega); have hq3 : (if va < (if can < tr then can else tr) then va else (if can < tr then can else tr)) = m3 := hm3.symm; have hw3 : IntKind.wrap .i64 (m3 + 1) = m3 + 1 := IntWalk.i64_in _ ⟨by omega, by omega⟩; clear hm3; have hza := hga.size; (repeat (first | simp only [World.size_alloc] at hza | simp only [World.size_drew] at hza | simp only [World.size_setCell] at hza)))) | (go_at_call 115; ((with_reducible refine (diceN _ _ _ (m3 + 1) _ hda (by omega) (by omega) (by omega) (by omega)).mono ?_); rintro e w5b ⟨vb, rfl, hvb, hub, hdb, hgb⟩; have s7b := cell_grown hgb (cell_grown hga (cell_drew_keep (cell_alloc_keep s7)) hadb) hadb; have f7b : w5b.frozen? ⟨ab, 7, none⟩ = false := frozen_grown hgb (frozen_grown hga (frozen_drew_keep (frozen_alloc_keep ha2 f7)) (by simp only [World.size_drew, World.size_alloc]; omega) hadb) (by show ab < _; omega) hadb; have hzb := hgb.size; (repeat (first | simp only [World.size_alloc] at hzb | simp only [World.size_drew] at hzb | simp only [World.size_setCell] at hzb)))) | fail)
  refine exit_world (fun ω => w.grownBy ω (some d) ∧ (∃ at', DiceOk ω d g at' ∧ 0 ≤ at' ∧ at' ≤ a + 13) ∧ ω.rowIs w.heap.size 83 15 (axv [.int .i64 0, .int .i64 0, .int .i64 0, .int .i64 0, .int .i64 0, .int .i64 0, .int .i64 0, .int .i64 0, .int .i64 0, .int .i64 0, .int .i64 0, .int .i64 0, .slice none 0 0, .slice none 0 0, .int .i64 0]) ∧ ω.rowIs ab 83 15 (axv [.int .i64 0, .int .i64 0, .int .i64 0, .int .i64 0, .int .i64 su, .int .i64 tr, .int .i64 ra, .int .i64 vb, .int .i64 0, .int .i64 0, .int .i64 0, .int .i64 0, .slice none 0 0, .slice none 0 0, .int .i64 0])) ⟨by (repeat' (first | (with_reducible exact World.grownBy.refl _ _) | (with_reducible assumption) | (with_reducible refine grown_alloc ?_ _) | (with_reducible refine grown_drew ?_) | ((with_reducible refine grown_setn ?_ ?_ _ _) <;> (first | omega | skip)) | (with_reducible refine grown_below ?_ (by with_reducible assumption)) | (with_reducible refine World.grownBy.trans ?_ (by with_reducible assumption)))), ⟨_, hdb.set hadb hra, by omega, by omega⟩, by (repeat' (first | (with_reducible assumption) | (with_reducible refine World.rowIs.alloc ?_ _) | (with_reducible refine World.rowIs.drew ?_) | (with_reducible refine row_put15 ?_ _ _ rfl) | ((with_reducible refine rowIs_other ?_ ?_ _ _) <;> (first | omega | (with_reducible assumption) | skip)) | (with_reducible refine rowIs_below ?_ (by with_reducible assumption)) | ((with_reducible refine rowIs_grown ?_ (by with_reducible assumption) ?_) <;> (first | omega | (with_reducible assumption) | skip)))), row_put15 (l := [.int .i64 0, .int .i64 0, .int .i64 0, .int .i64 0, .int .i64 su, .int .i64 tr, .int .i64 ra, .int .i64 0, .int .i64 0, .int .i64 0, .int .i64 0, .int .i64 0, .slice none 0 0, .slice none 0 0, .int .i64 0]) (by (repeat' (first | (with_reducible assumption) | (with_reducible refine World.rowIs.alloc ?_ _) | (with_reducible refine World.rowIs.drew ?_) | (with_reducible refine row_put15 ?_ _ _ rfl) | ((with_reducible refine rowIs_other ?_ ?_ _ _) <;> (first | omega | (with_reducible assumption) | skip)) | (with_reducible refine rowIs_below ?_ (by with_reducible assumption)) | ((with_reducible refine rowIs_grown ?_ (by with_reducible assumption) ?_) <;> (first | omega | (with_reducible assumption) | skip))))) 7 _ rfl (show 7 < 15 by decide)⟩ ?_
  clear hG2 hD2 hZ2 hr2 hda hga hza hdb hgb hzb p2 q2 k4 k5 k6 s7 f7 s7b f7b hab2 hl2 ha2 hva hq3 hw3
  rintro w3 ⟨hG3, ⟨at3, hD3, p3, q3⟩, hZ3, hr3⟩
  have hl3 := hZ3.lt
  have ha3 := hr3.lt
  obtain ⟨sl, slq⟩ : ∃ x, x = vb := ⟨_, rfl⟩
  rw [← slq] at hr3
  have sl1 : 0 ≤ sl := by omega
  have sl2 : sl ≤ can := by omega
  have sl3 : sl ≤ tr := by omega
  clear slq hvb hub hb3
  have k7 : w3.cell? ⟨ab, 7, none⟩ = some (.int .i64 sl) := hr3.cell (by decide)
  have s3 : w3.cell? ⟨ab, 3, none⟩ = some (.int .i64 0) := hr3.cell (by decide)
  have f3 := hr3.frozen 3
  have hab3 := hr3.lt
  go_upto_region 7 with (first | (go_at_call 115; ((with_reducible refine (diceN _ _ _ (can - sl + 1) _ hD3 (by omega) (by omega) (by omega) (by omega)).mono ?_); rintro e w5a ⟨va, rfl, hva, hua, hda, hga⟩; have s3a := cell_grown hga (s3) hadb; have f3a : w5a.frozen? ⟨ab, 3, none⟩ = false := frozen_grown hga (f3) (by show ab < _; first | omega | (simp only [World.size_drew, World.size_alloc]; omega)) hadb; have hza := hga.size; (repeat (first | simp only [World.size_alloc] at hza | simp only [World.size_drew] at hza | simp only [World.size_setCell] at hza)))) | fail)
  refine wp_world (fun ω => w.grownBy ω (some d) ∧ (∃ at', DiceOk ω d g at' ∧ 0 ≤ at' ∧ at' ≤ a + 14) ∧ ω.rowIs w.heap.size 83 15 (axv [.int .i64 0, .int .i64 0, .int .i64 0, .int .i64 0, .int .i64 0, .int .i64 0, .int .i64 0, .int .i64 0, .int .i64 0, .int .i64 0, .int .i64 0, .int .i64 0, .slice none 0 0, .slice none 0 0, .int .i64 0]) ∧ ω.rowIs ab 83 15 (axv [.int .i64 0, .int .i64 0, .int .i64 0, .int .i64 va, .int .i64 su, .int .i64 tr, .int .i64 ra, .int .i64 sl, .int .i64 0, .int .i64 0, .int .i64 0, .int .i64 0, .slice none 0 0, .slice none 0 0, .int .i64 0])) ⟨by (repeat' (first | (with_reducible exact World.grownBy.refl _ _) | (with_reducible assumption) | (with_reducible refine grown_alloc ?_ _) | (with_reducible refine grown_drew ?_) | ((with_reducible refine grown_setn ?_ ?_ _ _) <;> (first | omega | skip)) | (with_reducible refine grown_below ?_ (by with_reducible assumption)) | (with_reducible refine World.grownBy.trans ?_ (by with_reducible assumption)))), ⟨_, hda.set hadb hra, by omega, by omega⟩, by (repeat' (first | (with_reducible assumption) | (with_reducible refine World.rowIs.alloc ?_ _) | (with_reducible refine World.rowIs.drew ?_) | (with_reducible refine row_put15 ?_ _ _ rfl) | ((with_reducible refine rowIs_other ?_ ?_ _ _) <;> (first | omega | (with_reducible assumption) | skip)) | (with_reducible refine rowIs_below ?_ (by with_reducible assumption)) | ((with_reducible refine rowIs_grown ?_ (by with_reducible assumption) ?_) <;> (first | omega | (with_reducible assumption) | skip)))), row_put15 (l := [.int .i64 0, .int .i64 0, .int .i64 0, .int .i64 0, .int .i64 su, .int .i64 tr, .int .i64 ra, .int .i64 sl, .int .i64 0, .int .i64 0, .int .i64 0, .int .i64 0, .slice none 0 0, .slice none 0 0, .int .i64 0]) (by (repeat' (first | (with_reducible assumption) | (with_reducible refine World.rowIs.alloc ?_ _) | (with_reducible refine World.rowIs.drew ?_) | (with_reducible refine row_put15 ?_ _ _ rfl) | ((with_reducible refine rowIs_other ?_ ?_ _ _) <;> (first | omega | (with_reducible assumption) | skip)) | (with_reducible refine rowIs_below ?_ (by with_reducible assumption)) | ((with_reducible refine rowIs_grown ?_ (by with_reducible assumption) ?_) <;> (first | omega | (with_reducible assumption) | skip))))) 3 _ rfl (show 3 < 15 by decide)⟩ ?_
  clear hG3 hD3 hZ3 hr3 hda hga hza p3 q3 k7 s3 f3 s3a f3a hab3 hl3 ha3
  rintro w4 ⟨hG4, ⟨at4, hD4, p4, q4⟩, hZ4, hr4⟩
  have hl4 := hZ4.lt
  have ha4 := hr4.lt
  obtain ⟨pu, puq⟩ : ∃ x, x = va := ⟨_, rfl⟩
  rw [← puq] at hr4
  have pu1 : 0 ≤ pu := by omega
  have pu2 : pu + sl ≤ can := by omega
  clear puq hva hua
  have s2 : w4.cell? ⟨ab, 2, none⟩ = some (.int .i64 0) := hr4.cell (by decide)
  have f2 := hr4.frozen 2
  have hab4 := hr4.lt
  go_upto_region 8 with (first | (go_at_call 116; ((with_reducible refine (diceMost _ _ _ _ 3 _ [2, 10, 1001] _ (hD4.alloc _) (by omega) (by omega) rfl (by omega) (by omega) (by omega) (by simp) (diceCells3 _ 2 10 1001 _ _ rfl)).mono ?_); rintro e w5a ⟨va, rfl, hya, hda, hga⟩; have hva : 2 ≤ va ∧ va ≤ 1001 := (by simp only [List.mem_cons, List.not_mem_nil, or_false] at hya; omega); clear hya; have hza := hga.size; (repeat (first | simp only [World.size_alloc] at hza | simp only [World.size_drew] at hza | simp only [World.size_setCell] at hza)))) | (go_at_call 115; ((with_reducible refine (diceN _ _ _ va _ hda (by omega) (by omega) (by omega) (by omega)).mono ?_); rintro e w5b ⟨vb, rfl, hvb, hub, hdb, hgb⟩; have s2b := cell_grown hgb (cell_grown hga (cell_alloc_keep (s2)) hadb) hadb; have f2b : w5b.frozen? ⟨ab, 2, none⟩ = false := frozen_grown hgb (frozen_grown hga (frozen_alloc_keep (by first | omega | (simp only [World.size_drew, World.size_alloc]; omega)) (f2)) (by show ab < _; first | omega | (simp only [World.size_drew, World.size_alloc]; omega)) hadb) (by show ab < _; first | omega | (simp only [World.size_drew, World.size_alloc]; omega)) hadb; have hzb := hgb.size; (repeat (first | simp only [World.size_alloc] at hzb | simp only [World.size_drew] at hzb | simp only [World.size_setCell] at hzb)))) | fail)
  refine wp_world (fun ω => w.grownBy ω (some d) ∧ (∃ at', DiceOk ω d g at' ∧ 0 ≤ at' ∧ at' ≤ a + 16) ∧ ω.rowIs w.heap.size 83 15 (axv [.int .i64 0, .int .i64 0, .int .i64 0, .int .i64 0, .int .i64 0, .int .i64 0, .int .i64 0, .int .i64 0, .int .i64 0, .int .i64 0, .int .i64 0, .int .i64 0, .slice none 0 0, .slice none 0 0, .int .i64 0]) ∧ ω.rowIs ab 83 15 (axv [.int .i64 0, .int .i64 0, .int .i64 vb, .int .i64 pu, .int .i64 su, .int .i64 tr, .int .i64 ra, .int .i64 sl, .int .i64 0, .int .i64 0, .int .i64 0, .int .i64 0, .slice none 0 0, .slice none 0 0, .int .i64 0])) ⟨by (repeat' (first | (with_reducible exact World.grownBy.refl _ _) | (with_reducible assumption) | (with_reducible refine grown_alloc ?_ _) | (with_reducible refine grown_drew ?_) | ((with_reducible refine grown_setn ?_ ?_ _ _) <;> (first | omega | skip)) | (with_reducible refine grown_below ?_ (by with_reducible assumption)) | (with_reducible refine World.grownBy.trans ?_ (by with_reducible assumption)))), ⟨_, hdb.set hadb hra, by omega, by omega⟩, by (repeat' (first | (with_reducible assumption) | (with_reducible refine World.rowIs.alloc ?_ _) | (with_reducible refine World.rowIs.drew ?_) | (with_reducible refine row_put15 ?_ _ _ rfl) | ((with_reducible refine rowIs_other ?_ ?_ _ _) <;> (first | omega | (with_reducible assumption) | skip)) | (with_reducible refine rowIs_below ?_ (by with_reducible assumption)) | ((with_reducible refine rowIs_grown ?_ (by with_reducible assumption) ?_) <;> (first | omega | (with_reducible assumption) | skip)))), row_put15 (l := [.int .i64 0, .int .i64 0, .int .i64 0, .int .i64 pu, .int .i64 su, .int .i64 tr, .int .i64 ra, .int .i64 sl, .int .i64 0, .int .i64 0, .int .i64 0, .int .i64 0, .slice none 0 0, .slice none 0 0, .int .i64 0]) (by (repeat' (first | (with_reducible assumption) | (with_reducible refine World.rowIs.alloc ?_ _) | (with_reducible refine World.rowIs.drew ?_) | (with_reducible refine row_put15 ?_ _ _ rfl) | ((with_reducible refine rowIs_other ?_ ?_ _ _) <;> (first | omega | (with_reducible assumption) | skip)) | (with_reducible refine rowIs_below ?_ (by with_reducible assumption)) | ((with_reducible refine rowIs_grown ?_ (by with_reducible assumption) ?_) <;> (first | omega | (with_reducible assumption) | skip))))) 2 _ rfl (show 2 < 15 by decide)⟩ ?_
  clear hG4 hD4 hZ4 hr4 hda hga hza hdb hgb hzb p4 q4 s2 f2 s2b f2b hab4 hl4 ha4
  rintro w5 ⟨hG5, ⟨at5, hD5, p5, q5⟩, hZ5, hr5⟩
  have hl5 := hZ5.lt
  have ha5 := hr5.lt
  obtain ⟨no, noq⟩ : ∃ x, x = vb := ⟨_, rfl⟩
  rw [← noq] at hr5
  have no1 : 0 ≤ no := by omega
  have no2 : no ≤ 1000 := by omega
  clear noq hva hvb hub
  have k2 : w5.cell? ⟨ab, 2, none⟩ = some (.int .i64 no) := hr5.cell (by decide)
  have s8 : w5.cell? ⟨ab, 8, none⟩ = some (.int .i64 0) := hr5.cell (by decide)
  have f8 := hr5.frozen 8
  have hab5 := hr5.lt
  have hn2 : IntKind.wrap .i64 (2 * no) = 2 * no := IntWalk.i64_in _ ⟨by omega, by omega⟩
  go_region_held3 (fun ω => ω.cell? ⟨ab, 2, none⟩ = some (.int .i64 no)) (repeat' (first | (with_reducible assumption) | (with_reducible refine cell_alloc_keep ?_) | (with_reducible refine cell_drew_keep ?_) | (with_reducible refine cell_drewN_keep ?_) | (with_reducible refine cell_grown (by with_reducible assumption) ?_ hadb) | ((with_reducible refine cell_set_off ?_ ?_) <;> (first | (with_reducible assumption) | (focus (simp; done)) | omega | skip)))) (first | (go_at_call 115; ((with_reducible refine (diceN _ _ _ 40 _ hD5.drew (by omega) (by omega) (by omega) (by omega)).mono ?_); rintro e w5a ⟨va, rfl, hva, hua, hda, hga⟩; have hwl : IntKind.wrap .i64 (2 * no + va) = 2 * no + va := IntWalk.i64_in _ ⟨by omega, by omega⟩; have s8a := cell_grown hga (cell_drew_keep (s8)) hadb; have f8a : w5a.frozen? ⟨ab, 8, none⟩ = false := frozen_grown hga (frozen_drew_keep (f8)) (by show ab < _; first | omega | (simp only [World.size_drew, World.size_alloc]; omega)) hadb; have hza := hga.size; (repeat (first | simp only [World.size_alloc] at hza | simp only [World.size_drew] at hza | simp only [World.size_setCell] at hza)))) | fail)
  refine exit_world (fun ω => w.grownBy ω (some d) ∧ (∃ at', DiceOk ω d g at' ∧ 0 ≤ at' ∧ at' ≤ a + 17) ∧ ω.rowIs w.heap.size 83 15 (axv [.int .i64 0, .int .i64 0, .int .i64 0, .int .i64 0, .int .i64 0, .int .i64 0, .int .i64 0, .int .i64 0, .int .i64 0, .int .i64 0, .int .i64 0, .int .i64 0, .slice none 0 0, .slice none 0 0, .int .i64 0]) ∧ ω.rowIs ab 83 15 (axv [.int .i64 0, .int .i64 0, .int .i64 no, .int .i64 pu, .int .i64 su, .int .i64 tr, .int .i64 ra, .int .i64 sl, .int .i64 (2 * no + va), .int .i64 0, .int .i64 0, .int .i64 0, .slice none 0 0, .slice none 0 0, .int .i64 0])) ⟨by (repeat' (first | (with_reducible exact World.grownBy.refl _ _) | (with_reducible assumption) | (with_reducible refine grown_alloc ?_ _) | (with_reducible refine grown_drew ?_) | ((with_reducible refine grown_setn ?_ ?_ _ _) <;> (first | omega | skip)) | (with_reducible refine grown_below ?_ (by with_reducible assumption)) | (with_reducible refine World.grownBy.trans ?_ (by with_reducible assumption)))), ⟨_, hda.set hadb hra, by omega, by omega⟩, by (repeat' (first | (with_reducible assumption) | (with_reducible refine World.rowIs.alloc ?_ _) | (with_reducible refine World.rowIs.drew ?_) | (with_reducible refine row_put15 ?_ _ _ rfl) | ((with_reducible refine rowIs_other ?_ ?_ _ _) <;> (first | omega | (with_reducible assumption) | skip)) | (with_reducible refine rowIs_below ?_ (by with_reducible assumption)) | ((with_reducible refine rowIs_grown ?_ (by with_reducible assumption) ?_) <;> (first | omega | (with_reducible assumption) | skip)))), row_put15 (l := [.int .i64 0, .int .i64 0, .int .i64 no, .int .i64 pu, .int .i64 su, .int .i64 tr, .int .i64 ra, .int .i64 sl, .int .i64 0, .int .i64 0, .int .i64 0, .int .i64 0, .slice none 0 0, .slice none 0 0, .int .i64 0]) (by (repeat' (first | (with_reducible assumption) | (with_reducible refine World.rowIs.alloc ?_ _) | (with_reducible refine World.rowIs.drew ?_) | (with_reducible refine row_put15 ?_ _ _ rfl) | ((with_reducible refine rowIs_other ?_ ?_ _ _) <;> (first | omega | (with_reducible assumption) | skip)) | (with_reducible refine rowIs_below ?_ (by with_reducible assumption)) | ((with_reducible refine rowIs_grown ?_ (by with_reducible assumption) ?_) <;> (first | omega | (with_reducible assumption) | skip))))) 8 _ rfl (show 8 < 15 by decide)⟩ ?_
  clear hG5 hD5 hZ5 hr5 hda hga hza p5 q5 k2 s8 f8 s8a f8a hab5 hl5 ha5 hwl hn2
  rintro w6 ⟨hG6, ⟨at6, hD6, p6, q6⟩, hZ6, hr6⟩
  have hl6 := hZ6.lt
  have ha6 := hr6.lt
  obtain ⟨li, liq⟩ : ∃ x, x = 2 * no + va := ⟨_, rfl⟩
  rw [← liq] at hr6
  have li1 : 0 ≤ li := by omega
  have li2 : li ≤ 2040 := by omega
  clear liq hva hua
  have s9 : w6.cell? ⟨ab, 9, none⟩ = some (.int .i64 0) := hr6.cell (by decide)
  have f9 := hr6.frozen 9
  have hab6 := hr6.lt
  have s10 : w6.cell? ⟨ab, 10, none⟩ = some (.int .i64 0) := hr6.cell (by decide)
  have f10 := hr6.frozen 10
  go_upto_region 10 with (first | (go_at_call 115; ((with_reducible refine (diceN _ _ _ 10 _ hD6 (by omega) (by omega) (by omega) (by omega)).mono ?_); rintro e w5a ⟨va, rfl, hva, hua, hda, hga⟩; have hza := hga.size; (repeat (first | simp only [World.size_alloc] at hza | simp only [World.size_drew] at hza | simp only [World.size_setCell] at hza)))) | (go_at_call 115; ((with_reducible refine (diceN _ _ _ 10 _ hda (by omega) (by omega) (by omega) (by omega)).mono ?_); rintro e w5b ⟨vb, rfl, hvb, hub, hdb, hgb⟩; have s9b := cell_grown hgb (cell_grown hga (s9) hadb) hadb; have f9b : w5b.frozen? ⟨ab, 9, none⟩ = false := frozen_grown hgb (frozen_grown hga (f9) (by show ab < _; first | omega | (simp only [World.size_drew, World.size_alloc]; omega)) hadb) (by show ab < _; first | omega | (simp only [World.size_drew, World.size_alloc]; omega)) hadb; have s10b := cell_grown hgb (cell_grown hga (s10) hadb) hadb; have f10b : w5b.frozen? ⟨ab, 10, none⟩ = false := frozen_grown hgb (frozen_grown hga (f10) (by show ab < _; first | omega | (simp only [World.size_drew, World.size_alloc]; omega)) hadb) (by show ab < _; first | omega | (simp only [World.size_drew, World.size_alloc]; omega)) hadb; have hzb := hgb.size; (repeat (first | simp only [World.size_alloc] at hzb | simp only [World.size_drew] at hzb | simp only [World.size_setCell] at hzb)))) | fail)
  refine wp_world (fun ω => w.grownBy ω (some d) ∧ (∃ at', DiceOk ω d g at' ∧ 0 ≤ at' ∧ at' ≤ a + 19) ∧ ω.rowIs w.heap.size 83 15 (axv [.int .i64 0, .int .i64 0, .int .i64 0, .int .i64 0, .int .i64 0, .int .i64 0, .int .i64 0, .int .i64 0, .int .i64 0, .int .i64 0, .int .i64 0, .int .i64 0, .slice none 0 0, .slice none 0 0, .int .i64 0]) ∧ ω.rowIs ab 83 15 (axv [.int .i64 0, .int .i64 0, .int .i64 no, .int .i64 pu, .int .i64 su, .int .i64 tr, .int .i64 ra, .int .i64 sl, .int .i64 li, .int .i64 (1 + va), .int .i64 (1 + vb), .int .i64 0, .slice none 0 0, .slice none 0 0, .int .i64 0])) ⟨by (repeat' (first | (with_reducible exact World.grownBy.refl _ _) | (with_reducible assumption) | (with_reducible refine grown_alloc ?_ _) | (with_reducible refine grown_drew ?_) | ((with_reducible refine grown_setn ?_ ?_ _ _) <;> (first | omega | skip)) | (with_reducible refine grown_below ?_ (by with_reducible assumption)) | (with_reducible refine World.grownBy.trans ?_ (by with_reducible assumption)))), ⟨_, (hdb.set hadb hra).set hadb hra, by omega, by omega⟩, by (repeat' (first | (with_reducible assumption) | (with_reducible refine World.rowIs.alloc ?_ _) | (with_reducible refine World.rowIs.drew ?_) | (with_reducible refine row_put15 ?_ _ _ rfl) | ((with_reducible refine rowIs_other ?_ ?_ _ _) <;> (first | omega | (with_reducible assumption) | skip)) | (with_reducible refine rowIs_below ?_ (by with_reducible assumption)) | ((with_reducible refine rowIs_grown ?_ (by with_reducible assumption) ?_) <;> (first | omega | (with_reducible assumption) | skip)))), row_put15 (l := [.int .i64 0, .int .i64 0, .int .i64 no, .int .i64 pu, .int .i64 su, .int .i64 tr, .int .i64 ra, .int .i64 sl, .int .i64 li, .int .i64 (1 + va), .int .i64 0, .int .i64 0, .slice none 0 0, .slice none 0 0, .int .i64 0]) (row_put15 (l := [.int .i64 0, .int .i64 0, .int .i64 no, .int .i64 pu, .int .i64 su, .int .i64 tr, .int .i64 ra, .int .i64 sl, .int .i64 li, .int .i64 0, .int .i64 0, .int .i64 0, .slice none 0 0, .slice none 0 0, .int .i64 0]) (by (repeat' (first | (with_reducible assumption) | (with_reducible refine World.rowIs.alloc ?_ _) | (with_reducible refine World.rowIs.drew ?_) | (with_reducible refine row_put15 ?_ _ _ rfl) | ((with_reducible refine rowIs_other ?_ ?_ _ _) <;> (first | omega | (with_reducible assumption) | skip)) | (with_reducible refine rowIs_below ?_ (by with_reducible assumption)) | ((with_reducible refine rowIs_grown ?_ (by with_reducible assumption) ?_) <;> (first | omega | (with_reducible assumption) | skip))))) 9 _ rfl (show 9 < 15 by decide)) 10 _ rfl (show 10 < 15 by decide)⟩ ?_
  clear hG6 hD6 hZ6 hr6 hda hga hza hdb hgb hzb p6 q6 s9 f9 s9b f9b s10 f10 s10b f10b hab6 hl6 ha6
  rintro w7 ⟨hG7, ⟨at7, hD7, p7, q7⟩, hZ7, hr7⟩
  have hl7 := hZ7.lt
  have ha7 := hr7.lt
  obtain ⟨co, coq⟩ : ∃ x, x = 1 + va := ⟨_, rfl⟩
  rw [← coq] at hr7
  have co1 : 1 ≤ co := by omega
  have co2 : co ≤ 10 := by omega
  clear coq hva hua
  obtain ⟨wa, waq⟩ : ∃ x, x = 1 + vb := ⟨_, rfl⟩
  rw [← waq] at hr7
  have wa1 : 1 ≤ wa := by omega
  have wa2 : wa ≤ 10 := by omega
  clear waq hvb hub
  have s11 : w7.cell? ⟨ab, 11, none⟩ = some (.int .i64 0) := hr7.cell (by decide)
  have f11 := hr7.frozen 11
  have hab7 := hr7.lt
  have s14 : w7.cell? ⟨ab, 14, none⟩ = some (.int .i64 0) := hr7.cell (by decide)
  have f14 := hr7.frozen 14
  go_upto_region 11 with (first | (go_at_call 115; ((with_reducible refine (diceN _ _ _ 1001 _ hD7 (by omega) (by omega) (by omega) (by omega)).mono ?_); rintro e w5a ⟨va, rfl, hva, hua, hda, hga⟩; have hza := hga.size; (repeat (first | simp only [World.size_alloc] at hza | simp only [World.size_drew] at hza | simp only [World.size_setCell] at hza)))) | (go_at_call 116; ((with_reducible refine (diceMost _ _ _ _ 3 _ [4, 200, 65537] _ (hda.alloc _) (by omega) (by omega) rfl (by omega) (by omega) (by omega) (by simp) (diceCells3 _ 4 200 65537 _ _ rfl)).mono ?_); rintro e w5b ⟨vb, rfl, hyb, hdb, hgb⟩; have hvb : 4 ≤ vb ∧ vb ≤ 65537 := (by simp only [List.mem_cons, List.not_mem_nil, or_false] at hyb; omega); clear hyb; have hzb := hgb.size; (repeat (first | simp only [World.size_alloc] at hzb | simp only [World.size_drew] at hzb | simp only [World.size_setCell] at hzb)))) | (go_at_call 115; ((with_reducible refine (diceN _ _ _ vb _ hdb (by omega) (by omega) (by omega) (by omega)).mono ?_); rintro e w5c ⟨vc, rfl, hvc, huc, hdc, hgc⟩; have s11c := cell_grown hgc (cell_grown hgb (cell_alloc_keep (cell_grown hga (s11) hadb)) hadb) hadb; have f11c : w5c.frozen? ⟨ab, 11, none⟩ = false := frozen_grown hgc (frozen_grown hgb (frozen_alloc_keep (by first | omega | (simp only [World.size_drew, World.size_alloc]; omega)) (frozen_grown hga (f11) (by show ab < _; first | omega | (simp only [World.size_drew, World.size_alloc]; omega)) hadb)) (by show ab < _; first | omega | (simp only [World.size_drew, World.size_alloc]; omega)) hadb) (by show ab < _; first | omega | (simp only [World.size_drew, World.size_alloc]; omega)) hadb; have s14c := cell_grown hgc (cell_grown hgb (cell_alloc_keep (cell_grown hga (s14) hadb)) hadb) hadb; have f14c : w5c.frozen? ⟨ab, 14, none⟩ = false := frozen_grown hgc (frozen_grown hgb (frozen_alloc_keep (by first | omega | (simp only [World.size_drew, World.size_alloc]; omega)) (frozen_grown hga (f14) (by show ab < _; first | omega | (simp only [World.size_drew, World.size_alloc]; omega)) hadb)) (by show ab < _; first | omega | (simp only [World.size_drew, World.size_alloc]; omega)) hadb) (by show ab < _; first | omega | (simp only [World.size_drew, World.size_alloc]; omega)) hadb; have hzc := hgc.size; (repeat (first | simp only [World.size_alloc] at hzc | simp only [World.size_drew] at hzc | simp only [World.size_setCell] at hzc)))) | fail)
  refine wp_world (fun ω => w.grownBy ω (some d) ∧ (∃ at', DiceOk ω d g at' ∧ 0 ≤ at' ∧ at' ≤ a + 22) ∧ ω.rowIs w.heap.size 83 15 (axv [.int .i64 0, .int .i64 0, .int .i64 0, .int .i64 0, .int .i64 0, .int .i64 0, .int .i64 0, .int .i64 0, .int .i64 0, .int .i64 0, .int .i64 0, .int .i64 0, .slice none 0 0, .slice none 0 0, .int .i64 0]) ∧ ω.rowIs ab 83 15 (axv [.int .i64 0, .int .i64 0, .int .i64 no, .int .i64 pu, .int .i64 su, .int .i64 tr, .int .i64 ra, .int .i64 sl, .int .i64 li, .int .i64 co, .int .i64 wa, .int .i64 va, .slice none 0 0, .slice none 0 0, .int .i64 vc])) ⟨by (repeat' (first | (with_reducible exact World.grownBy.refl _ _) | (with_reducible assumption) | (with_reducible refine grown_alloc ?_ _) | (with_reducible refine grown_drew ?_) | ((with_reducible refine grown_setn ?_ ?_ _ _) <;> (first | omega | skip)) | (with_reducible refine grown_below ?_ (by with_reducible assumption)) | (with_reducible refine World.grownBy.trans ?_ (by with_reducible assumption)))), ⟨_, (hdc.set hadb hra).set hadb hra, by omega, by omega⟩, by (repeat' (first | (with_reducible assumption) | (with_reducible refine World.rowIs.alloc ?_ _) | (with_reducible refine World.rowIs.drew ?_) | (with_reducible refine row_put15 ?_ _ _ rfl) | ((with_reducible refine rowIs_other ?_ ?_ _ _) <;> (first | omega | (with_reducible assumption) | skip)) | (with_reducible refine rowIs_below ?_ (by with_reducible assumption)) | ((with_reducible refine rowIs_grown ?_ (by with_reducible assumption) ?_) <;> (first | omega | (with_reducible assumption) | skip)))), row_put15 (l := [.int .i64 0, .int .i64 0, .int .i64 no, .int .i64 pu, .int .i64 su, .int .i64 tr, .int .i64 ra, .int .i64 sl, .int .i64 li, .int .i64 co, .int .i64 wa, .int .i64 va, .slice none 0 0, .slice none 0 0, .int .i64 0]) (row_put15 (l := [.int .i64 0, .int .i64 0, .int .i64 no, .int .i64 pu, .int .i64 su, .int .i64 tr, .int .i64 ra, .int .i64 sl, .int .i64 li, .int .i64 co, .int .i64 wa, .int .i64 0, .slice none 0 0, .slice none 0 0, .int .i64 0]) (by (repeat' (first | (with_reducible assumption) | (with_reducible refine World.rowIs.alloc ?_ _) | (with_reducible refine World.rowIs.drew ?_) | (with_reducible refine row_put15 ?_ _ _ rfl) | ((with_reducible refine rowIs_other ?_ ?_ _ _) <;> (first | omega | (with_reducible assumption) | skip)) | (with_reducible refine rowIs_below ?_ (by with_reducible assumption)) | ((with_reducible refine rowIs_grown ?_ (by with_reducible assumption) ?_) <;> (first | omega | (with_reducible assumption) | skip))))) 11 _ rfl (show 11 < 15 by decide)) 14 _ rfl (show 14 < 15 by decide)⟩ ?_
  clear hG7 hD7 hZ7 hr7 hda hga hza hdb hgb hzb hdc hgc hzc p7 q7 s11 f11 s11c f11c s14 f14 s14c f14c hab7 hl7 ha7
  rintro w8 ⟨hG8, ⟨at8, hD8, p8, q8⟩, hZ8, hr8⟩
  have hl8 := hZ8.lt
  have ha8 := hr8.lt
  obtain ⟨tu, tuq⟩ : ∃ x, x = va := ⟨_, rfl⟩
  rw [← tuq] at hr8
  have tu1 : 0 ≤ tu := by omega
  have tu2 : tu ≤ 1000 := by omega
  clear tuq hva hua
  obtain ⟨bu, buq⟩ : ∃ x, x = vc := ⟨_, rfl⟩
  rw [← buq] at hr8
  have bu1 : 0 ≤ bu := by omega
  have bu2 : bu ≤ 65536 := by omega
  clear buq hvb hvc huc
  have s12 : w8.cell? ⟨ab, 12, none⟩ = some (.slice none 0 0) := hr8.cell (by decide)
  have f12 := hr8.frozen 12
  have hab8 := hr8.lt
  have s13 : w8.cell? ⟨ab, 13, none⟩ = some (.slice none 0 0) := hr8.cell (by decide)
  have f13 := hr8.frozen 13
  go_upto_region 12 with (first | (go_at_call 115; ((with_reducible refine (diceN _ _ _ 900 _ hD8 (by omega) (by omega) (by omega) (by omega)).mono ?_); rintro e w5a ⟨va, rfl, hva, hua, hda, hga⟩; have hza := hga.size; (repeat (first | simp only [World.size_alloc] at hza | simp only [World.size_drew] at hza | simp only [World.size_setCell] at hza)))) | (go_at_call 116; ((with_reducible refine (diceMost _ _ _ _ 2 _ [60, 65537] _ ((hda.alloc _).alloc _) (by omega) (by omega) rfl (by omega) (by omega) (by omega) (by simp) (diceCells2 _ 60 65537 _ _ (by simp))).mono ?_); rintro e w5b ⟨vb, rfl, hyb, hdb, hgb⟩; have hvb : 60 ≤ vb ∧ vb ≤ 65537 := (by simp only [List.mem_cons, List.not_mem_nil, or_false] at hyb; omega); clear hyb; have hzb := hgb.size; (repeat (first | simp only [World.size_alloc] at hzb | simp only [World.size_drew] at hzb | simp only [World.size_setCell] at hzb)))) | (go_at_call 115; ((with_reducible refine (diceN _ _ _ vb _ hdb (by omega) (by omega) (by omega) (by omega)).mono ?_); rintro e w5c ⟨vc, rfl, hvc, huc, hdc, hgc⟩; have hzc := hgc.size; (repeat (first | simp only [World.size_alloc] at hzc | simp only [World.size_drew] at hzc | simp only [World.size_setCell] at hzc)))) | (go_at_call 115; ((with_reducible refine (diceN _ _ _ 300 _ hdc (by omega) (by omega) (by omega) (by omega)).mono ?_); rintro e w5d ⟨vd, rfl, hvd, hud, hdd, hgd⟩; have s12d := cell_grown hgd (cell_grown hgc (cell_grown hgb (cell_alloc_keep (cell_alloc_keep (cell_grown hga (s12) hadb))) hadb) hadb) hadb; have f12d : w5d.frozen? ⟨ab, 12, none⟩ = false := frozen_grown hgd (frozen_grown hgc (frozen_grown hgb (frozen_alloc_keep (by first | omega | (simp only [World.size_drew, World.size_alloc]; omega)) (frozen_alloc_keep (by first | omega | (simp only [World.size_drew, World.size_alloc]; omega)) (frozen_grown hga (f12) (by show ab < _; first | omega | (simp only [World.size_drew, World.size_alloc]; omega)) hadb))) (by show ab < _; first | omega | (simp only [World.size_drew, World.size_alloc]; omega)) hadb) (by show ab < _; first | omega | (simp only [World.size_drew, World.size_alloc]; omega)) hadb) (by show ab < _; first | omega | (simp only [World.size_drew, World.size_alloc]; omega)) hadb; have s13d := cell_grown hgd (cell_grown hgc (cell_grown hgb (cell_alloc_keep (cell_alloc_keep (cell_grown hga (s13) hadb))) hadb) hadb) hadb; have f13d : w5d.frozen? ⟨ab, 13, none⟩ = false := frozen_grown hgd (frozen_grown hgc (frozen_grown hgb (frozen_alloc_keep (by first | omega | (simp only [World.size_drew, World.size_alloc]; omega)) (frozen_alloc_keep (by first | omega | (simp only [World.size_drew, World.size_alloc]; omega)) (frozen_grown hga (f13) (by show ab < _; first | omega | (simp only [World.size_drew, World.size_alloc]; omega)) hadb))) (by show ab < _; first | omega | (simp only [World.size_drew, World.size_alloc]; omega)) hadb) (by show ab < _; first | omega | (simp only [World.size_drew, World.size_alloc]; omega)) hadb) (by show ab < _; first | omega | (simp only [World.size_drew, World.size_alloc]; omega)) hadb; have hzd := hgd.size; have habd : ab < w5d.heap.size := (by omega); (repeat (first | simp only [World.size_alloc] at hzd | simp only [World.size_drew] at hzd | simp only [World.size_setCell] at hzd)))) | fail)
  refine wp_world (fun ω => w.grownBy ω (some d) ∧ (∃ at', DiceOk ω d g at' ∧ 0 ≤ at' ∧ at' ≤ a + 26) ∧ ω.rowIs w.heap.size 83 15 (axv [.int .i64 0, .int .i64 0, .int .i64 0, .int .i64 0, .int .i64 0, .int .i64 0, .int .i64 0, .int .i64 0, .int .i64 0, .int .i64 0, .int .i64 0, .int .i64 0, .slice none 0 0, .slice none 0 0, .int .i64 0]) ∧ ω.rowIs ab 83 15 (axv [.int .i64 0, .int .i64 0, .int .i64 no, .int .i64 pu, .int .i64 su, .int .i64 tr, .int .i64 ra, .int .i64 sl, .int .i64 li, .int .i64 co, .int .i64 wa, .int .i64 tu, .slice (some ⟨w5a.heap.size, 0, none⟩) 2 2, .slice (some ⟨w5d.heap.size, 0, none⟩) 2 2, .int .i64 bu])) ⟨by (repeat' (first | (with_reducible exact World.grownBy.refl _ _) | (with_reducible assumption) | (with_reducible refine grown_alloc ?_ _) | (with_reducible refine grown_drew ?_) | ((with_reducible refine grown_setn ?_ ?_ _ _) <;> (first | omega | skip)) | (with_reducible refine grown_below ?_ (by with_reducible assumption)) | (with_reducible refine World.grownBy.trans ?_ (by with_reducible assumption)))), ⟨_, ((hdd.set hadb hra).set hadb hra).alloc _, by omega, by omega⟩, by (repeat' (first | (with_reducible assumption) | (with_reducible refine World.rowIs.alloc ?_ _) | (with_reducible refine World.rowIs.drew ?_) | (with_reducible refine row_put15 ?_ _ _ rfl) | ((with_reducible refine rowIs_other ?_ ?_ _ _) <;> (first | omega | (with_reducible assumption) | skip)) | (with_reducible refine rowIs_below ?_ (by with_reducible assumption)) | ((with_reducible refine rowIs_grown ?_ (by with_reducible assumption) ?_) <;> (first | omega | (with_reducible assumption) | skip)))), World.rowIs.alloc (row_put15 (l := [.int .i64 0, .int .i64 0, .int .i64 no, .int .i64 pu, .int .i64 su, .int .i64 tr, .int .i64 ra, .int .i64 sl, .int .i64 li, .int .i64 co, .int .i64 wa, .int .i64 tu, .slice (some ⟨w5a.heap.size, 0, none⟩) 2 2, .slice none 0 0, .int .i64 bu]) (row_put15 (l := [.int .i64 0, .int .i64 0, .int .i64 no, .int .i64 pu, .int .i64 su, .int .i64 tr, .int .i64 ra, .int .i64 sl, .int .i64 li, .int .i64 co, .int .i64 wa, .int .i64 tu, .slice none 0 0, .slice none 0 0, .int .i64 bu]) (by (repeat' (first | (with_reducible assumption) | (with_reducible refine World.rowIs.alloc ?_ _) | (with_reducible refine World.rowIs.drew ?_) | (with_reducible refine row_put15 ?_ _ _ rfl) | ((with_reducible refine rowIs_other ?_ ?_ _ _) <;> (first | omega | (with_reducible assumption) | skip)) | (with_reducible refine rowIs_below ?_ (by with_reducible assumption)) | ((with_reducible refine rowIs_grown ?_ (by with_reducible assumption) ?_) <;> (first | omega | (with_reducible assumption) | skip))))) 12 _ rfl (show 12 < 15 by decide)) 13 _ rfl (show 13 < 15 by decide)) _⟩ ?_
  clear hG8 hD8 hZ8 hr8 hda hga hza hdb hgb hzb hdc hgc hzc hdd hgd hzd habd p8 q8 s12 f12 s12d f12d s13 f13 s13d f13d hab8 hl8 ha8 hva hua hvb hvc huc hvd hud
  rintro w9 ⟨hG9, ⟨at9, hD9, p9, q9⟩, hZ9, hr9⟩
  have hl9 := hZ9.lt
  have ha9 := hr9.lt
  generalize w5a.heap.size = pA at *
  generalize w5d.heap.size = pI at *
  have k0 : w9.cell? ⟨ab, 0, none⟩ = some (.int .i64 0) := hr9.cell (by decide)
  have k1 : w9.cell? ⟨ab, 1, none⟩ = some (.int .i64 0) := hr9.cell (by decide)
  have k2 : w9.cell? ⟨ab, 2, none⟩ = some (.int .i64 no) := hr9.cell (by decide)
  have k3 : w9.cell? ⟨ab, 3, none⟩ = some (.int .i64 pu) := hr9.cell (by decide)
  have k4 : w9.cell? ⟨ab, 4, none⟩ = some (.int .i64 su) := hr9.cell (by decide)
  have k5 : w9.cell? ⟨ab, 5, none⟩ = some (.int .i64 tr) := hr9.cell (by decide)
  have k6 : w9.cell? ⟨ab, 6, none⟩ = some (.int .i64 ra) := hr9.cell (by decide)
  have k7 : w9.cell? ⟨ab, 7, none⟩ = some (.int .i64 sl) := hr9.cell (by decide)
  have k8 : w9.cell? ⟨ab, 8, none⟩ = some (.int .i64 li) := hr9.cell (by decide)
  have k9 : w9.cell? ⟨ab, 9, none⟩ = some (.int .i64 co) := hr9.cell (by decide)
  have k10 : w9.cell? ⟨ab, 10, none⟩ = some (.int .i64 wa) := hr9.cell (by decide)
  have k11 : w9.cell? ⟨ab, 11, none⟩ = some (.int .i64 tu) := hr9.cell (by decide)
  have k12 : w9.cell? ⟨ab, 12, none⟩ = some (.slice (some ⟨pA, 0, none⟩) 2 2) := hr9.cell (by decide)
  have k13 : w9.cell? ⟨ab, 13, none⟩ = some (.slice (some ⟨pI, 0, none⟩) 2 2) := hr9.cell (by decide)
  have k14 : w9.cell? ⟨ab, 14, none⟩ = some (.int .i64 bu) := hr9.cell (by decide)
  have hps : IntKind.wrap .i64 (pu + sl) = pu + sl := IntWalk.i64_in _ ⟨by omega, by omega⟩
  obtain ⟨bk, hbk⟩ : ∃ x, pbrake (pu + sl) gr mo = x := ⟨_, rfl⟩
  have hb0 : 0 ≤ bk := by rw [← hbk]; exact pbrake_nonneg (by omega) _
  have hb1 : bk ≤ 36006000 := by rw [← hbk]; exact pbrake_le (by omega) (by omega) (by omega)
  have Hbk := Lib.hid hbk
  clear hbk
  have hn1 : IntKind.wrap .i64 (no + bk) = no + bk := IntWalk.i64_in _ ⟨by omega, by omega⟩
  have hn2 : IntKind.wrap .i64 (2 * (no + bk)) = 2 * (no + bk) := IntWalk.i64_in _ ⟨by omega, by omega⟩
  go_region_held3 (fun ω => ω.cell? ⟨ab, 0, none⟩ = some (.int .i64 0) ∧ ω.cell? ⟨ab, 1, none⟩ = some (.int .i64 0) ∧ ω.cell? ⟨ab, 2, none⟩ = some (.int .i64 no) ∧ ω.cell? ⟨ab, 3, none⟩ = some (.int .i64 pu) ∧ ω.cell? ⟨ab, 4, none⟩ = some (.int .i64 su) ∧ ω.cell? ⟨ab, 5, none⟩ = some (.int .i64 tr) ∧ ω.cell? ⟨ab, 6, none⟩ = some (.int .i64 ra) ∧ ω.cell? ⟨ab, 7, none⟩ = some (.int .i64 sl) ∧ ω.cell? ⟨ab, 8, none⟩ = some (.int .i64 li) ∧ ω.cell? ⟨ab, 9, none⟩ = some (.int .i64 co) ∧ ω.cell? ⟨ab, 10, none⟩ = some (.int .i64 wa) ∧ ω.cell? ⟨ab, 11, none⟩ = some (.int .i64 tu) ∧ ω.cell? ⟨ab, 12, none⟩ = some (.slice (some ⟨pA, 0, none⟩) 2 2) ∧ ω.cell? ⟨ab, 13, none⟩ = some (.slice (some ⟨pI, 0, none⟩) 2 2) ∧ ω.cell? ⟨ab, 14, none⟩ = some (.int .i64 bu)) (refine ⟨?_, ?_, ?_, ?_, ?_, ?_, ?_, ?_, ?_, ?_, ?_, ?_, ?_, ?_, ?_⟩ <;> (repeat' (first | (with_reducible assumption) | (with_reducible refine cell_alloc_keep ?_) | (with_reducible refine cell_drew_keep ?_) | (with_reducible refine cell_drewN_keep ?_) | (with_reducible refine cell_below (by with_reducible assumption) ?_ ?_) | omega | (simp; done) | (simp; omega)))) (first | (go_at_call 62; ((with_reducible refine (refGuardRule _ _ _ _ _ _ _ _ _ _ _ _ _ (pu + sl) mo gr _ _ _ su1 su2 hps hm1 hm2).mono ?_); rintro e w5g ⟨rfl, hb5g⟩; have hz5g := hb5g.size; (repeat (first | simp only [World.size_alloc] at hz5g | simp only [World.size_drew] at hz5g | simp only [World.size_setCell] at hz5g)))) | (go_at_call 134; ((with_reducible refine (refBrake_as _ _ _ _ _ _ _ bk _ (by omega) (by omega) (by omega) (by omega) (by omega) (by omega) Hbk.out).mono ?_); rintro e w5h ⟨rfl, hb5h⟩; have hz5h := hb5h.size; (repeat (first | simp only [World.size_alloc] at hz5h | simp only [World.size_drew] at hz5h | simp only [World.size_setCell] at hz5h)))) | fail)
  obtain ⟨wd, hwd⟩ : ∃ x, x = 2 * (no + bk) := ⟨_, rfl⟩
  rw [← hwd] at hn2
  have wd1 : 0 ≤ wd := by omega
  have wd2 : wd ≤ 72014000 := by omega
  refine exit_world (fun ω => w.grownBy ω (some d) ∧ (∃ at', DiceOk ω d g at' ∧ 0 ≤ at' ∧ at' ≤ a + 26) ∧ ω.rowIs w.heap.size 83 15 (axv [.int .i64 0, .int .i64 0, .int .i64 0, .int .i64 0, .int .i64 0, .int .i64 0, .int .i64 0, .int .i64 0, .int .i64 0, .int .i64 0, .int .i64 0, .int .i64 0, .slice none 0 0, .slice none 0 0, .int .i64 0]) ∧ ω.rowIs ab 83 15 (axv [.int .i64 0, .int .i64 0, .int .i64 no, .int .i64 pu, .int .i64 su, .int .i64 tr, .int .i64 ra, .int .i64 sl, .int .i64 li, .int .i64 co, .int .i64 wa, .int .i64 tu, .slice (some ⟨pA, 0, none⟩) 2 2, .slice (some ⟨pI, 0, none⟩) 2 2, .int .i64 bu])) ⟨by (repeat' (first | (with_reducible exact World.grownBy.refl _ _) | (with_reducible assumption) | (with_reducible refine grown_alloc ?_ _) | (with_reducible refine grown_drew ?_) | ((with_reducible refine grown_setn ?_ ?_ _ _) <;> (first | omega | skip)) | (with_reducible refine grown_below ?_ (by with_reducible assumption)) | (with_reducible refine World.grownBy.trans ?_ (by with_reducible assumption)))), ⟨_, (hD9.drew.below hb5g).below hb5h, by omega, by omega⟩, by (repeat' (first | (with_reducible assumption) | (with_reducible refine World.rowIs.alloc ?_ _) | (with_reducible refine World.rowIs.drew ?_) | (with_reducible refine row_put15 ?_ _ _ rfl) | ((with_reducible refine rowIs_other ?_ ?_ _ _) <;> (first | omega | (with_reducible assumption) | skip)) | (with_reducible refine rowIs_below ?_ (by with_reducible assumption)) | ((with_reducible refine rowIs_grown ?_ (by with_reducible assumption) ?_) <;> (first | omega | (with_reducible assumption) | skip)))), by (repeat' (first | (with_reducible assumption) | (with_reducible refine World.rowIs.alloc ?_ _) | (with_reducible refine World.rowIs.drew ?_) | (with_reducible refine row_put15 ?_ _ _ rfl) | ((with_reducible refine rowIs_other ?_ ?_ _ _) <;> (first | omega | (with_reducible assumption) | skip)) | (with_reducible refine rowIs_below ?_ (by with_reducible assumption)) | ((with_reducible refine rowIs_grown ?_ (by with_reducible assumption) ?_) <;> (first | omega | (with_reducible assumption) | skip))))⟩ ?_
  clear hG9 hD9 hZ9 hr9 p9 q9 hl9 ha9 k0 k1 k2 k3 k4 k5 k6 k7 k8 k9 k10 k11 k12 k13 k14 hps hb0 hb1 hn1 hn2 hb5g hz5g hb5h hz5h Hbk
  rintro w10 ⟨hG10, ⟨at10, hD10, p10, q10⟩, hZ10, hr10⟩
  have hl10 := hZ10.lt
  have ha10 := hr10.lt
  rw [← hwd]
  clear hwd
  go_upto_if 108 with fail
  go_cut [6] (fun s6 ω => ∃ rc wc' : Int, s6 = .int .i64 wc' ∧ 1 ≤ rc ∧ rc ≤ tr ∧ 0 ≤ wc' ∧ wc' ≤ 72014000 ∧ w.grownBy ω (some d) ∧ (∃ at', DiceOk ω d g at' ∧ 0 ≤ at' ∧ at' ≤ a + 26) ∧ ω.rowIs w.heap.size 83 15 (axv [.int .i64 0, .int .i64 0, .int .i64 0, .int .i64 0, .int .i64 0, .int .i64 0, .int .i64 0, .int .i64 0, .int .i64 0, .int .i64 0, .int .i64 0, .int .i64 0, .slice none 0 0, .slice none 0 0, .int .i64 0]) ∧ ω.rowIs ab 83 15 (axv [.int .i64 0, .int .i64 0, .int .i64 no, .int .i64 pu, .int .i64 su, .int .i64 tr, .int .i64 rc, .int .i64 sl, .int .i64 li, .int .i64 co, .int .i64 wa, .int .i64 tu, .slice (some ⟨pA, 0, none⟩) 2 2, .slice (some ⟨pI, 0, none⟩) 2 2, .int .i64 bu]))
  case first =>
    by_cases c : 150000 < wd
    · go_upto_region 14 with fail
      have k5 : w10.cell? ⟨ab, 5, none⟩ = some (.int .i64 tr) := hr10.cell (by decide)
      have s6 : w10.cell? ⟨ab, 6, none⟩ = some (.int .i64 ra) := hr10.cell (by decide)
      have f6 := hr10.frozen 6
      have hab10 := hr10.lt
      go_upto_region 15 with fail
      refine wp_world (fun ω => w.grownBy ω (some d) ∧ (∃ at', DiceOk ω d g at' ∧ 0 ≤ at' ∧ at' ≤ a + 26) ∧ ω.rowIs w.heap.size 83 15 (axv [.int .i64 0, .int .i64 0, .int .i64 0, .int .i64 0, .int .i64 0, .int .i64 0, .int .i64 0, .int .i64 0, .int .i64 0, .int .i64 0, .int .i64 0, .int .i64 0, .slice none 0 0, .slice none 0 0, .int .i64 0]) ∧ ω.rowIs ab 83 15 (axv [.int .i64 0, .int .i64 0, .int .i64 no, .int .i64 pu, .int .i64 su, .int .i64 tr, .int .i64 tr, .int .i64 sl, .int .i64 li, .int .i64 co, .int .i64 wa, .int .i64 tu, .slice (some ⟨pA, 0, none⟩) 2 2, .slice (some ⟨pI, 0, none⟩) 2 2, .int .i64 bu])) ⟨by (repeat' (first | (with_reducible exact World.grownBy.refl _ _) | (with_reducible assumption) | (with_reducible refine grown_alloc ?_ _) | (with_reducible refine grown_drew ?_) | ((with_reducible refine grown_setn ?_ ?_ _ _) <;> (first | omega | skip)) | (with_reducible refine grown_below ?_ (by with_reducible assumption)) | (with_reducible refine World.grownBy.trans ?_ (by with_reducible assumption)))), ⟨_, hD10.set hadb hra, by omega, by omega⟩, by (repeat' (first | (with_reducible assumption) | (with_reducible refine World.rowIs.alloc ?_ _) | (with_reducible refine World.rowIs.drew ?_) | (with_reducible refine row_put15 ?_ _ _ rfl) | ((with_reducible refine rowIs_other ?_ ?_ _ _) <;> (first | omega | (with_reducible assumption) | skip)) | (with_reducible refine rowIs_below ?_ (by with_reducible assumption)) | ((with_reducible refine rowIs_grown ?_ (by with_reducible assumption) ?_) <;> (first | omega | (with_reducible assumption) | skip)))), row_put15 hr10 6 _ rfl (show 6 < 15 by decide)⟩ ?_
      clear hG10 hD10 hZ10 hr10 p10 q10 hl10 ha10 k5 s6 f6 hab10
      rintro w11 ⟨hG11, ⟨at11, hD11, p11, q11⟩, hZ11, hr11⟩
      have hl11 := hZ11.lt
      have ha11 := hr11.lt
      clear wd1 wd2
      have k0 : w11.cell? ⟨ab, 0, none⟩ = some (.int .i64 0) := hr11.cell (by decide)
      have k1 : w11.cell? ⟨ab, 1, none⟩ = some (.int .i64 0) := hr11.cell (by decide)
      have k2 : w11.cell? ⟨ab, 2, none⟩ = some (.int .i64 no) := hr11.cell (by decide)
      have k3 : w11.cell? ⟨ab, 3, none⟩ = some (.int .i64 pu) := hr11.cell (by decide)
      have k4 : w11.cell? ⟨ab, 4, none⟩ = some (.int .i64 su) := hr11.cell (by decide)
      have k5 : w11.cell? ⟨ab, 5, none⟩ = some (.int .i64 tr) := hr11.cell (by decide)
      have k6 : w11.cell? ⟨ab, 6, none⟩ = some (.int .i64 tr) := hr11.cell (by decide)
      have k7 : w11.cell? ⟨ab, 7, none⟩ = some (.int .i64 sl) := hr11.cell (by decide)
      have k8 : w11.cell? ⟨ab, 8, none⟩ = some (.int .i64 li) := hr11.cell (by decide)
      have k9 : w11.cell? ⟨ab, 9, none⟩ = some (.int .i64 co) := hr11.cell (by decide)
      have k10 : w11.cell? ⟨ab, 10, none⟩ = some (.int .i64 wa) := hr11.cell (by decide)
      have k11 : w11.cell? ⟨ab, 11, none⟩ = some (.int .i64 tu) := hr11.cell (by decide)
      have k12 : w11.cell? ⟨ab, 12, none⟩ = some (.slice (some ⟨pA, 0, none⟩) 2 2) := hr11.cell (by decide)
      have k13 : w11.cell? ⟨ab, 13, none⟩ = some (.slice (some ⟨pI, 0, none⟩) 2 2) := hr11.cell (by decide)
      have k14 : w11.cell? ⟨ab, 14, none⟩ = some (.int .i64 bu) := hr11.cell (by decide)
      have hps : IntKind.wrap .i64 (pu + sl) = pu + sl := IntWalk.i64_in _ ⟨by omega, by omega⟩
      obtain ⟨bj, hbj⟩ : ∃ x, pbrake (pu + sl) mo mo = x := ⟨_, rfl⟩
      have hb0 : 0 ≤ bj := by rw [← hbj]; exact pbrake_nonneg (by omega) _
      have hb1 : bj ≤ 36006000 := by rw [← hbj]; exact pbrake_le (by omega) (by omega) (by omega)
      have Hbj := Lib.hid hbj
      clear hbj
      have hn1 : IntKind.wrap .i64 (no + bj) = no + bj := IntWalk.i64_in _ ⟨by omega, by omega⟩
      have hn2 : IntKind.wrap .i64 (2 * (no + bj)) = 2 * (no + bj) := IntWalk.i64_in _ ⟨by omega, by omega⟩
      go_region_held3 (fun ω => ω.cell? ⟨ab, 0, none⟩ = some (.int .i64 0) ∧ ω.cell? ⟨ab, 1, none⟩ = some (.int .i64 0) ∧ ω.cell? ⟨ab, 2, none⟩ = some (.int .i64 no) ∧ ω.cell? ⟨ab, 3, none⟩ = some (.int .i64 pu) ∧ ω.cell? ⟨ab, 4, none⟩ = some (.int .i64 su) ∧ ω.cell? ⟨ab, 5, none⟩ = some (.int .i64 tr) ∧ ω.cell? ⟨ab, 6, none⟩ = some (.int .i64 tr) ∧ ω.cell? ⟨ab, 7, none⟩ = some (.int .i64 sl) ∧ ω.cell? ⟨ab, 8, none⟩ = some (.int .i64 li) ∧ ω.cell? ⟨ab, 9, none⟩ = some (.int .i64 co) ∧ ω.cell? ⟨ab, 10, none⟩ = some (.int .i64 wa) ∧ ω.cell? ⟨ab, 11, none⟩ = some (.int .i64 tu) ∧ ω.cell? ⟨ab, 12, none⟩ = some (.slice (some ⟨pA, 0, none⟩) 2 2) ∧ ω.cell? ⟨ab, 13, none⟩ = some (.slice (some ⟨pI, 0, none⟩) 2 2) ∧ ω.cell? ⟨ab, 14, none⟩ = some (.int .i64 bu)) (refine ⟨?_, ?_, ?_, ?_, ?_, ?_, ?_, ?_, ?_, ?_, ?_, ?_, ?_, ?_, ?_⟩ <;> (repeat' (first | (with_reducible assumption) | (with_reducible refine cell_alloc_keep ?_) | (with_reducible refine cell_drew_keep ?_) | (with_reducible refine cell_drewN_keep ?_) | (with_reducible refine cell_below (by with_reducible assumption) ?_ ?_) | omega | (simp; done) | (simp; omega)))) (first | (go_at_call 62; ((with_reducible refine (refGuardRule _ _ _ _ _ _ _ _ _ _ _ _ _ (pu + sl) mo mo _ _ _ su1 su2 hps hm1 hm1).mono ?_); rintro e w5g ⟨rfl, hb5g⟩; have hz5g := hb5g.size; (repeat (first | simp only [World.size_alloc] at hz5g | simp only [World.size_drew] at hz5g | simp only [World.size_setCell] at hz5g)))) | (go_at_call 134; ((with_reducible refine (refBrake_as _ _ _ _ _ _ _ bj _ (by omega) (by omega) (by omega) (by omega) (by omega) (by omega) Hbj.out).mono ?_); rintro e w5h ⟨rfl, hb5h⟩; have hz5h := hb5h.size; (repeat (first | simp only [World.size_alloc] at hz5h | simp only [World.size_drew] at hz5h | simp only [World.size_setCell] at hz5h)))) | fail)
      have we1 : 0 ≤ 2 * (no + bj) := by omega
      have we2 : 2 * (no + bj) ≤ 72014000 := by omega
      clear k0 k1 k2 k3 k4 k5 k6 k7 k8 k9 k10 k11 k12 k13 k14 hps
      go_wp2_with fail
      go_meet
      exact ⟨tr, _, rfl, by omega, by omega, we1, we2, by (repeat' (first | (with_reducible exact World.grownBy.refl _ _) | (with_reducible assumption) | (with_reducible refine grown_alloc ?_ _) | (with_reducible refine grown_drew ?_) | ((with_reducible refine grown_setn ?_ ?_ _ _) <;> (first | omega | skip)) | (with_reducible refine grown_below ?_ (by with_reducible assumption)) | (with_reducible refine World.grownBy.trans ?_ (by with_reducible assumption)))), ⟨_, (hD11.drew.below hb5g).below hb5h, by omega, by omega⟩, by (repeat' (first | (with_reducible assumption) | (with_reducible refine World.rowIs.alloc ?_ _) | (with_reducible refine World.rowIs.drew ?_) | (with_reducible refine row_put15 ?_ _ _ rfl) | ((with_reducible refine rowIs_other ?_ ?_ _ _) <;> (first | omega | (with_reducible assumption) | skip)) | (with_reducible refine rowIs_below ?_ (by with_reducible assumption)) | ((with_reducible refine rowIs_grown ?_ (by with_reducible assumption) ?_) <;> (first | omega | (with_reducible assumption) | skip)))), by (repeat' (first | (with_reducible assumption) | (with_reducible refine World.rowIs.alloc ?_ _) | (with_reducible refine World.rowIs.drew ?_) | (with_reducible refine row_put15 ?_ _ _ rfl) | ((with_reducible refine rowIs_other ?_ ?_ _ _) <;> (first | omega | (with_reducible assumption) | skip)) | (with_reducible refine rowIs_below ?_ (by with_reducible assumption)) | ((with_reducible refine rowIs_grown ?_ (by with_reducible assumption) ?_) <;> (first | omega | (with_reducible assumption) | skip))))⟩
    · go_wp2_with fail
      go_meet
      exact ⟨ra, wd, rfl, by omega, by omega, wd1, wd2, hG10, ⟨at10, hD10, p10, q10⟩, hZ10, hr10⟩
  clear hG10 hD10 hZ10 hr10 p10 q10 hl10 ha10 wd1 wd2
  obtain ⟨rc, wd, rfl, rc1, rc2, wd1, wd2, hG13, ⟨at13, hD13, p13, q13⟩, hZ13, hr13⟩ := hcut
  obtain ⟨w13, rfl⟩ : ∃ x : World, x = wc := ⟨_, rfl⟩
  have hl13 := hZ13.lt
  have ha13 := hr13.lt
  go_upto_region 17 with (first | (go_at_call 116; ((with_reducible refine (diceMost _ _ _ _ 2 _ [3, 3000] _ (hD13.alloc _) (by omega) (by omega) rfl (by omega) (by omega) (by omega) (by simp) (diceCells2 _ 3 3000 _ _ rfl)).mono ?_); rintro e w5a ⟨va, rfl, hya, hda, hga⟩; have hva : 3 ≤ va ∧ va ≤ 3000 := (by simp only [List.mem_cons, List.not_mem_nil, or_false] at hya; omega); clear hya; have hza := hga.size; (repeat (first | simp only [World.size_alloc] at hza | simp only [World.size_drew] at hza | simp only [World.size_setCell] at hza)))) | (go_at_call 115; ((with_reducible refine (diceN _ _ _ va _ hda (by omega) (by omega) (by omega) (by omega)).mono ?_); rintro e w5b ⟨vb, rfl, hvb, hub, hdb, hgb⟩; have hzb := hgb.size; (repeat (first | simp only [World.size_alloc] at hzb | simp only [World.size_drew] at hzb | simp only [World.size_setCell] at hzb)))) | fail)
  refine wp_world (fun ω => w.grownBy ω (some d) ∧ (∃ at', DiceOk ω d g at' ∧ 0 ≤ at' ∧ at' ≤ a + 28) ∧ ω.rowIs w.heap.size 83 15 (axv [.int .i64 0, .int .i64 0, .int .i64 0, .int .i64 0, .int .i64 0, .int .i64 0, .int .i64 0, .int .i64 0, .int .i64 0, .int .i64 0, .int .i64 0, .int .i64 0, .slice none 0 0, .slice none 0 0, .int .i64 0]) ∧ ω.rowIs ab 83 15 (axv [.int .i64 0, .int .i64 0, .int .i64 no, .int .i64 pu, .int .i64 su, .int .i64 tr, .int .i64 rc, .int .i64 sl, .int .i64 li, .int .i64 co, .int .i64 wa, .int .i64 tu, .slice (some ⟨pA, 0, none⟩) 2 2, .slice (some ⟨pI, 0, none⟩) 2 2, .int .i64 bu])) ⟨by (repeat' (first | (with_reducible exact World.grownBy.refl _ _) | (with_reducible assumption) | (with_reducible refine grown_alloc ?_ _) | (with_reducible refine grown_drew ?_) | ((with_reducible refine grown_setn ?_ ?_ _ _) <;> (first | omega | skip)) | (with_reducible refine grown_below ?_ (by with_reducible assumption)) | (with_reducible refine World.grownBy.trans ?_ (by with_reducible assumption)))), ⟨_, hdb, by omega, by omega⟩, by (repeat' (first | (with_reducible assumption) | (with_reducible refine World.rowIs.alloc ?_ _) | (with_reducible refine World.rowIs.drew ?_) | (with_reducible refine row_put15 ?_ _ _ rfl) | ((with_reducible refine rowIs_other ?_ ?_ _ _) <;> (first | omega | (with_reducible assumption) | skip)) | (with_reducible refine rowIs_below ?_ (by with_reducible assumption)) | ((with_reducible refine rowIs_grown ?_ (by with_reducible assumption) ?_) <;> (first | omega | (with_reducible assumption) | skip)))), by (repeat' (first | (with_reducible assumption) | (with_reducible refine World.rowIs.alloc ?_ _) | (with_reducible refine World.rowIs.drew ?_) | (with_reducible refine row_put15 ?_ _ _ rfl) | ((with_reducible refine rowIs_other ?_ ?_ _ _) <;> (first | omega | (with_reducible assumption) | skip)) | (with_reducible refine rowIs_below ?_ (by with_reducible assumption)) | ((with_reducible refine rowIs_grown ?_ (by with_reducible assumption) ?_) <;> (first | omega | (with_reducible assumption) | skip))))⟩ ?_
  clear hG13 hD13 hZ13 hr13 hda hga hza hdb hgb hzb p13 q13 hl13 ha13
  rintro w14 ⟨hG14, ⟨at14, hD14, p14, q14⟩, hZ14, hr14⟩
  have hl14 := hZ14.lt
  have ha14 := hr14.lt
  generalize hwi : wd + vb = wi at *
  have wi1 : 0 ≤ wi := by omega
  have wi2 : wi ≤ 72017000 := by omega
  clear hwi hva hvb hub
  obtain ⟨mn, hmn⟩ : ∃ x, (if (100000 : Int) < wi then (100000 : Int) else wi) = x := ⟨_, rfl⟩
  have mn1 : 0 ≤ mn := by rw [← hmn]; split <;> omega
  have mn2 : mn ≤ 100000 := by rw [← hmn]; split <;> omega
  have hmw : IntKind.wrap .i64 (mn + 1) = mn + 1 := IntWalk.i64_in _ ⟨by omega, by omega⟩
  have hww : IntKind.wrap .i64 (wi - 200000) = wi - 200000 := IntWalk.i64_in _ ⟨by omega, by omega⟩
  have s0 : w14.cell? ⟨ab, 0, none⟩ = some (.int .i64 0) := hr14.cell (by decide)
  have f0 := hr14.frozen 0
  have hab14 := hr14.lt
  go_upto_region 18 with (first | (go_at_call 115; ((with_reducible refine (diceN _ _ _ (mn + 1) _ hD14 (by omega) (by omega) (by omega) (by omega)).mono ?_); rintro e w5a ⟨va, rfl, hva, hua, hda, hga⟩; have hng : IntKind.wrap .i64 (-va) = -va := IntWalk.i64_in _ ⟨by omega, by omega⟩; obtain ⟨lo, hlo⟩ : ∃ x, (if -va < wi - 200000 then wi - 200000 else -va) = x := ⟨_, rfl⟩; have lo1 : -100000 ≤ lo := (by rw [← hlo]; split <;> omega); have lo2 : lo ≤ 72017000 := (by rw [← hlo]; split <;> omega); have s0a := cell_grown hga (s0) hadb; have f0a : w5a.frozen? ⟨ab, 0, none⟩ = false := frozen_grown hga (f0) (by show ab < _; first | omega | (simp only [World.size_drew, World.size_alloc]; omega)) hadb; have hza := hga.size; (repeat (first | simp only [World.size_alloc] at hza | simp only [World.size_drew] at hza | simp only [World.size_setCell] at hza)))) | fail)
  refine wp_world (fun ω => w.grownBy ω (some d) ∧ (∃ at', DiceOk ω d g at' ∧ 0 ≤ at' ∧ at' ≤ a + 29) ∧ ω.rowIs w.heap.size 83 15 (axv [.int .i64 0, .int .i64 0, .int .i64 0, .int .i64 0, .int .i64 0, .int .i64 0, .int .i64 0, .int .i64 0, .int .i64 0, .int .i64 0, .int .i64 0, .int .i64 0, .slice none 0 0, .slice none 0 0, .int .i64 0]) ∧ ω.rowIs ab 83 15 (axv [.int .i64 lo, .int .i64 0, .int .i64 no, .int .i64 pu, .int .i64 su, .int .i64 tr, .int .i64 rc, .int .i64 sl, .int .i64 li, .int .i64 co, .int .i64 wa, .int .i64 tu, .slice (some ⟨pA, 0, none⟩) 2 2, .slice (some ⟨pI, 0, none⟩) 2 2, .int .i64 bu])) ⟨by (repeat' (first | (with_reducible exact World.grownBy.refl _ _) | (with_reducible assumption) | (with_reducible refine grown_alloc ?_ _) | (with_reducible refine grown_drew ?_) | ((with_reducible refine grown_setn ?_ ?_ _ _) <;> (first | omega | skip)) | (with_reducible refine grown_below ?_ (by with_reducible assumption)) | (with_reducible refine World.grownBy.trans ?_ (by with_reducible assumption)))), ⟨_, hda.set hadb hra, by omega, by omega⟩, by (repeat' (first | (with_reducible assumption) | (with_reducible refine World.rowIs.alloc ?_ _) | (with_reducible refine World.rowIs.drew ?_) | (with_reducible refine row_put15 ?_ _ _ rfl) | ((with_reducible refine rowIs_other ?_ ?_ _ _) <;> (first | omega | (with_reducible assumption) | skip)) | (with_reducible refine rowIs_below ?_ (by with_reducible assumption)) | ((with_reducible refine rowIs_grown ?_ (by with_reducible assumption) ?_) <;> (first | omega | (with_reducible assumption) | skip)))), row_put15 (l := [.int .i64 0, .int .i64 0, .int .i64 no, .int .i64 pu, .int .i64 su, .int .i64 tr, .int .i64 rc, .int .i64 sl, .int .i64 li, .int .i64 co, .int .i64 wa, .int .i64 tu, .slice (some ⟨pA, 0, none⟩) 2 2, .slice (some ⟨pI, 0, none⟩) 2 2, .int .i64 bu]) (by (repeat' (first | (with_reducible assumption) | (with_reducible refine World.rowIs.alloc ?_ _) | (with_reducible refine World.rowIs.drew ?_) | (with_reducible refine row_put15 ?_ _ _ rfl) | ((with_reducible refine rowIs_other ?_ ?_ _ _) <;> (first | omega | (with_reducible assumption) | skip)) | (with_reducible refine rowIs_below ?_ (by with_reducible assumption)) | ((with_reducible refine rowIs_grown ?_ (by with_reducible assumption) ?_) <;> (first | omega | (with_reducible assumption) | skip))))) 0 _ rfl (show 0 < 15 by decide)⟩ ?_
  clear hG14 hD14 hZ14 hr14 hda hga hza p14 q14 hl14 ha14 s0 f0 s0a f0a hab14 hva hua hng hlo hmn hmw hww mn1 mn2
  rintro w15 ⟨hG15, ⟨at15, hD15, p15, q15⟩, hZ15, hr15⟩
  have hl15 := hZ15.lt
  have ha15 := hr15.lt
  have hlw : IntKind.wrap .i64 (lo + wi) = lo + wi := IntWalk.i64_in _ ⟨by omega, by omega⟩
  have k0 : w15.cell? ⟨ab, 0, none⟩ = some (.int .i64 lo) := hr15.cell (by decide)
  have s1 : w15.cell? ⟨ab, 1, none⟩ = some (.int .i64 0) := hr15.cell (by decide)
  have f1 := hr15.frozen 1
  have hab15 := hr15.lt
  go_upto_region 19 with fail
  refine wp_world (fun ω => w.grownBy ω (some d) ∧ (∃ at', DiceOk ω d g at' ∧ 0 ≤ at' ∧ at' ≤ a + 29) ∧ ω.rowIs w.heap.size 83 15 (axv [.int .i64 0, .int .i64 0, .int .i64 0, .int .i64 0, .int .i64 0, .int .i64 0, .int .i64 0, .int .i64 0, .int .i64 0, .int .i64 0, .int .i64 0, .int .i64 0, .slice none 0 0, .slice none 0 0, .int .i64 0]) ∧ ω.rowIs ab 83 15 (axv [.int .i64 lo, .int .i64 (lo + wi), .int .i64 no, .int .i64 pu, .int .i64 su, .int .i64 tr, .int .i64 rc, .int .i64 sl, .int .i64 li, .int .i64 co, .int .i64 wa, .int .i64 tu, .slice (some ⟨pA, 0, none⟩) 2 2, .slice (some ⟨pI, 0, none⟩) 2 2, .int .i64 bu])) ⟨by (repeat' (first | (with_reducible exact World.grownBy.refl _ _) | (with_reducible assumption) | (with_reducible refine grown_alloc ?_ _) | (with_reducible refine grown_drew ?_) | ((with_reducible refine grown_setn ?_ ?_ _ _) <;> (first | omega | skip)) | (with_reducible refine grown_below ?_ (by with_reducible assumption)) | (with_reducible refine World.grownBy.trans ?_ (by with_reducible assumption)))), ⟨_, hD15.set hadb hra, by omega, by omega⟩, by (repeat' (first | (with_reducible assumption) | (with_reducible refine World.rowIs.alloc ?_ _) | (with_reducible refine World.rowIs.drew ?_) | (with_reducible refine row_put15 ?_ _ _ rfl) | ((with_reducible refine rowIs_other ?_ ?_ _ _) <;> (first | omega | (with_reducible assumption) | skip)) | (with_reducible refine rowIs_below ?_ (by with_reducible assumption)) | ((with_reducible refine rowIs_grown ?_ (by with_reducible assumption) ?_) <;> (first | omega | (with_reducible assumption) | skip)))), row_put15 hr15 1 _ rfl (show 1 < 15 by decide)⟩ ?_
  clear hG15 hD15 hZ15 hr15 p15 q15 hl15 ha15 k0 s1 f1 hab15 hlw
  rintro w16 ⟨hG16, ⟨at16, hD16, p16, q16⟩, hZ16, hr16⟩
  have hl16 := hZ16.lt
  have ha16 := hr16.lt
  obtain ⟨hi, hhi⟩ : ∃ x, x = lo + wi := ⟨_, rfl⟩
  rw [← hhi] at hr16
  have hi1 : lo ≤ hi := by omega
  have hi2 : hi ≤ 200000000 := by omega
  clear hhi
  have k1 : w16.cell? ⟨ab, 1, none⟩ = some (.int .i64 hi) := hr16.cell (by decide)
  go_upto_if 144 with fail
  go_cut [] (fun ω => ∃ l2 h2 : Int, -100000000 ≤ l2 ∧ l2 ≤ h2 ∧ h2 ≤ 200000000 ∧ w.grownBy ω (some d) ∧ (∃ at', DiceOk ω d g at' ∧ 0 ≤ at' ∧ at' ≤ a + 29) ∧ ω.rowIs w.heap.size 83 15 (axv [.int .i64 0, .int .i64 0, .int .i64 0, .int .i64 0, .int .i64 0, .int .i64 0, .int .i64 0, .int .i64 0, .int .i64 0, .int .i64 0, .int .i64 0, .int .i64 0, .slice none 0 0, .slice none 0 0, .int .i64 0]) ∧ ω.rowIs ab 83 15 (axv [.int .i64 l2, .int .i64 h2, .int .i64 no, .int .i64 pu, .int .i64 su, .int .i64 tr, .int .i64 rc, .int .i64 sl, .int .i64 li, .int .i64 co, .int .i64 wa, .int .i64 tu, .slice (some ⟨pA, 0, none⟩) 2 2, .slice (some ⟨pI, 0, none⟩) 2 2, .int .i64 bu]))
  case first =>
    by_cases c2 : 100000 < hi
    · have hcw : IntKind.wrap .i64 (100000 - wi) = 100000 - wi := IntWalk.i64_in _ ⟨by omega, by omega⟩
      have s0 : w16.cell? ⟨ab, 0, none⟩ = some (.int .i64 lo) := hr16.cell (by decide)
      have f0 := hr16.frozen 0
      have hab16 := hr16.lt
      have f1 := hr16.frozen 1
      go_wp2_with fail
      go_meet
      exact ⟨100000 - wi, 100000, by omega, by omega, by omega, by (repeat' (first | (with_reducible exact World.grownBy.refl _ _) | (with_reducible assumption) | (with_reducible refine grown_alloc ?_ _) | (with_reducible refine grown_drew ?_) | ((with_reducible refine grown_setn ?_ ?_ _ _) <;> (first | omega | skip)) | (with_reducible refine grown_below ?_ (by with_reducible assumption)) | (with_reducible refine World.grownBy.trans ?_ (by with_reducible assumption)))), ⟨_, (hD16.set hadb hra).set hadb hra, by omega, by omega⟩, by (repeat' (first | (with_reducible assumption) | (with_reducible refine World.rowIs.alloc ?_ _) | (with_reducible refine World.rowIs.drew ?_) | (with_reducible refine row_put15 ?_ _ _ rfl) | ((with_reducible refine rowIs_other ?_ ?_ _ _) <;> (first | omega | (with_reducible assumption) | skip)) | (with_reducible refine rowIs_below ?_ (by with_reducible assumption)) | ((with_reducible refine rowIs_grown ?_ (by with_reducible assumption) ?_) <;> (first | omega | (with_reducible assumption) | skip)))), row_put15 (l := [.int .i64 (100000 - wi), .int .i64 hi, .int .i64 no, .int .i64 pu, .int .i64 su, .int .i64 tr, .int .i64 rc, .int .i64 sl, .int .i64 li, .int .i64 co, .int .i64 wa, .int .i64 tu, .slice (some ⟨pA, 0, none⟩) 2 2, .slice (some ⟨pI, 0, none⟩) 2 2, .int .i64 bu]) (row_put15 hr16 0 _ rfl (show 0 < 15 by decide)) 1 _ rfl (show 1 < 15 by decide)⟩
    · go_wp2_with fail
      go_meet
      exact ⟨lo, hi, by omega, by omega, by omega, hG16, ⟨at16, hD16, p16, q16⟩, hZ16, hr16⟩
  clear hG16 hD16 hZ16 hr16 p16 q16 hl16 ha16 k1 lo1 lo2 hi1 hi2
  obtain ⟨lo, hi, lo1, hi1, hi2, hG20, ⟨at20, hD20, p20, q20⟩, hZ20, hr20⟩ := hcut
  obtain ⟨w20, rfl⟩ : ∃ x : World, x = wc := ⟨_, rfl⟩
  have k0 : w20.cell? ⟨ab, 0, none⟩ = some (.int .i64 lo) := hr20.cell (by decide)
  have k1 : w20.cell? ⟨ab, 1, none⟩ = some (.int .i64 hi) := hr20.cell (by decide)
  have k2 : w20.cell? ⟨ab, 2, none⟩ = some (.int .i64 no) := hr20.cell (by decide)
  have k3 : w20.cell? ⟨ab, 3, none⟩ = some (.int .i64 pu) := hr20.cell (by decide)
  have k4 : w20.cell? ⟨ab, 4, none⟩ = some (.int .i64 su) := hr20.cell (by decide)
  have k5 : w20.cell? ⟨ab, 5, none⟩ = some (.int .i64 tr) := hr20.cell (by decide)
  have k6 : w20.cell? ⟨ab, 6, none⟩ = some (.int .i64 rc) := hr20.cell (by decide)
  have k7 : w20.cell? ⟨ab, 7, none⟩ = some (.int .i64 sl) := hr20.cell (by decide)
  have k8 : w20.cell? ⟨ab, 8, none⟩ = some (.int .i64 li) := hr20.cell (by decide)
  have k9 : w20.cell? ⟨ab, 9, none⟩ = some (.int .i64 co) := hr20.cell (by decide)
  have k10 : w20.cell? ⟨ab, 10, none⟩ = some (.int .i64 wa) := hr20.cell (by decide)
  have k11 : w20.cell? ⟨ab, 11, none⟩ = some (.int .i64 tu) := hr20.cell (by decide)
  have k12 : w20.cell? ⟨ab, 12, none⟩ = some (.slice (some ⟨pA, 0, none⟩) 2 2) := hr20.cell (by decide)
  have k13 : w20.cell? ⟨ab, 13, none⟩ = some (.slice (some ⟨pI, 0, none⟩) 2 2) := hr20.cell (by decide)
  have k14 : w20.cell? ⟨ab, 14, none⟩ = some (.int .i64 bu) := hr20.cell (by decide)
  have z0 : w20.cell? ⟨w.heap.size, 0, none⟩ = some (.int .i64 0) := hZ20.cell (by decide)
  have y0 := hZ20.frozen 0
  have z1 : w20.cell? ⟨w.heap.size, 1, none⟩ = some (.int .i64 0) := hZ20.cell (by decide)
  have y1 := hZ20.frozen 1
  have z2 : w20.cell? ⟨w.heap.size, 2, none⟩ = some (.int .i64 0) := hZ20.cell (by decide)
  have y2 := hZ20.frozen 2
  have z3 : w20.cell? ⟨w.heap.size, 3, none⟩ = some (.int .i64 0) := hZ20.cell (by decide)
  have y3 := hZ20.frozen 3
  have z4 : w20.cell? ⟨w.heap.size, 4, none⟩ = some (.int .i64 0) := hZ20.cell (by decide)
  have y4 := hZ20.frozen 4
  have z5 : w20.cell? ⟨w.heap.size, 5, none⟩ = some (.int .i64 0) := hZ20.cell (by decide)
  have y5 := hZ20.frozen 5
  have z6 : w20.cell? ⟨w.heap.size, 6, none⟩ = some (.int .i64 0) := hZ20.cell (by decide)
  have y6 := hZ20.frozen 6
  have z7 : w20.cell? ⟨w.heap.size, 7, none⟩ = some (.int .i64 0) := hZ20.cell (by decide)
  have y7 := hZ20.frozen 7
  have z8 : w20.cell? ⟨w.heap.size, 8, none⟩ = some (.int .i64 0) := hZ20.cell (by decide)
  have y8 := hZ20.frozen 8
  have z9 : w20.cell? ⟨w.heap.size, 9, none⟩ = some (.int .i64 0) := hZ20.cell (by decide)
  have y9 := hZ20.frozen 9
  have z10 : w20.cell? ⟨w.heap.size, 10, none⟩ = some (.int .i64 0) := hZ20.cell (by decide)
  have y10 := hZ20.frozen 10
  have z11 : w20.cell? ⟨w.heap.size, 11, none⟩ = some (.int .i64 0) := hZ20.cell (by decide)
  have y11 := hZ20.frozen 11
  have z12 : w20.cell? ⟨w.heap.size, 12, none⟩ = some (.slice none 0 0) := hZ20.cell (by decide)
  have y12 := hZ20.frozen 12
  have z13 : w20.cell? ⟨w.heap.size, 13, none⟩ = some (.slice none 0 0) := hZ20.cell (by decide)
  have y13 := hZ20.frozen 13
  have z14 : w20.cell? ⟨w.heap.size, 14, none⟩ = some (.int .i64 0) := hZ20.cell (by decide)
  have y14 := hZ20.frozen 14
  go_wp2_with fail
  refine bodyPost_ret (v := .agg #[.int .i64 lo, .int .i64 hi, .int .i64 no, .int .i64 pu, .int .i64 su, .int .i64 tr, .int .i64 rc, .int .i64 sl, .int .i64 li, .int .i64 co, .int .i64 wa, .int .i64 tu, .slice (some ⟨pA, 0, none⟩) 2 2, .slice (some ⟨pI, 0, none⟩) 2 2, .int .i64 bu]) ?_ rfl ⟨lo, hi, no, pu, su, tr, rc, sl, li, co, wa, tu, bu, _, _, rfl, by (repeat' (first | (with_reducible exact World.grownBy.refl _ _) | (with_reducible assumption) | (with_reducible refine grown_alloc ?_ _) | (with_reducible refine grown_drew ?_) | ((with_reducible refine grown_setn ?_ ?_ _ _) <;> (first | omega | skip)) | (with_reducible refine grown_below ?_ (by with_reducible assumption)) | (with_reducible refine World.grownBy.trans ?_ (by with_reducible assumption)))), ⟨at20, by (repeat' (first | (with_reducible assumption) | (with_reducible refine DiceOk.alloc ?_ _) | (with_reducible refine DiceOk.drew ?_) | ((with_reducible refine DiceOk.set ?_ ?_ ?_) <;> (try (with_reducible assumption))))), by omega, by omega⟩, by omega, by omega, by omega, by omega, by omega, by omega, by omega, by omega, by omega, by omega, by omega, by omega, by omega, by omega, by omega, by omega, by omega, ⟨by omega, by omega, by omega, by omega, by omega, by omega, by omega, by omega⟩⟩
  simp [results, Try.results138, go_sem, z0, z1, z2, z3, z4, z5, z6, z7, z8, z9, z10, z11, z12, z13, z14]
end Go.Proofs.Ytdfpenjhpemokaa.Sx
