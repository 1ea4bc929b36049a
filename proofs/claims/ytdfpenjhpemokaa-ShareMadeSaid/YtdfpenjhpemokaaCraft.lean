/-
  R.CraftFrom: a craft made of raw numbers: what its numbers are at least and at most.
-/
import Derived.Test.YtdfpenjhpemokaaAxisFrom
import Derived.Deep.MidRow
import Derived.LoopN
set_option linter.unusedVariables false
set_option linter.unusedSimpArgs false
namespace Go.Proofs.Ytdfpenjhpemokaa.Sx
open Go.RowKit
structure Ax where
  lo : Int
  hi : Int
  no : Int
  pu : Int
  su : Int
  tr : Int
  ra : Int
  sl : Int
  li : Int
  co : Int
  wa : Int
  tu : Int
  bu : Int
  pA : Nat
  pI : Nat
def Ax.cells (x : Ax) : List Value := [.int .i64 x.lo, .int .i64 x.hi, .int .i64 x.no, .int .i64 x.pu, .int .i64 x.su, .int .i64 x.tr, .int .i64 x.ra, .int .i64 x.sl, .int .i64 x.li, .int .i64 x.co, .int .i64 x.wa, .int .i64 x.tu, .slice (some ⟨x.pA, 0, none⟩) 2 2, .slice (some ⟨x.pI, 0, none⟩) 2 2, .int .i64 x.bu]
structure Ax.Fine (x : Ax) : Prop where
  su : 2 ≤ x.su ∧ x.su ≤ 4
  tr : 1 ≤ x.tr ∧ x.tr ≤ 1000
  ra : 1 ≤ x.ra ∧ x.ra ≤ x.tr
  sl : 0 ≤ x.sl ∧ x.sl ≤ x.tr
  pu : 0 ≤ x.pu ∧ x.pu ≤ 1000
  no : 0 ≤ x.no ∧ x.no ≤ 1000
  lo : -100000000 ≤ x.lo ∧ x.lo ≤ x.hi ∧ x.hi ≤ 200000000
  wa : 1 ≤ x.wa ∧ x.wa ≤ 10
  co : 1 ≤ x.co ∧ x.co ≤ 10 ∧ 0 ≤ x.li ∧ x.li ≤ 2040 ∧ 0 ≤ x.tu ∧ x.tu ≤ 1000 ∧ 0 ≤ x.bu ∧ x.bu ≤ 65536
theorem Ax.len (x : Ax) : x.cells.length = 15 := rfl
theorem Ax.one (x : Ax) : x.cells.toArray.all (·.oneCell') = true := by simp [Ax.cells, Value.oneCell']
theorem axisFrom (d : Nat) (g : GD) (a : Int) (w : World) (h : DiceOk w d g a) (a0 : 0 ≤ a) (a1 : a ≤ 900000) :
    Calls Try.prog 138 #[.pointer (some ⟨d, 0, none⟩)] w fun e w' => ∃ x : Ax, e = .returned (.agg x.cells.toArray) ∧ x.Fine ∧ w.grownBy w' (some d) ∧ ∃ a', DiceOk w' d g a' ∧ 0 ≤ a' ∧ a' ≤ a + 100 := by
  refine (axisFrom_ok d g a w h a0 a1).mono ?_
  rintro e w' ⟨lo, hi, no, pu, su, tr, ra, sl, li, co, wa, tu, bu, pA, pI, rfl, h1, h2, s1, s2, t1, t2, r1, r2, l1, l2, p1, p2, n1, n2, b1, b2, b3, c1, c2, c3⟩
  exact ⟨⟨lo, hi, no, pu, su, tr, ra, sl, li, co, wa, tu, bu, pA, pI⟩, rfl, ⟨⟨s1, s2⟩, ⟨t1, t2⟩, ⟨r1, r2⟩, ⟨l1, l2⟩, ⟨p1, p2⟩, ⟨n1, n2⟩, ⟨b1, b2, b3⟩, ⟨c1, c2⟩, c3⟩, h1, h2⟩
theorem sizeAxis : (Try.prog.info? 83).map (·.size) = some 15 := by kernel_rfl
theorem sizeCraft : (Try.prog.info? 86).map (·.size) = some 32 := by kernel_rfl
theorem range_grown {w w' : World} {d b o : Nat} {cs : List Value} (h : w.rangeAt b o cs) (hg : w.grownBy w' (some d)) (hne : b ≠ d) : w'.rangeAt b o cs := fun j v hv => cell_grown hg (h j v hv) hne
theorem there_grown {w w' : World} {d b o n : Nat} (h : w.there b o n) (hg : w.grownBy w' (some d)) (hne : b ≠ d) (hl : b < w.heap.size) : w'.there b o n := fun j hj => by
  obtain ⟨h1, h2⟩ := h j hj
  obtain ⟨v, hv⟩ := Option.isSome_iff_exists.1 h1
  exact ⟨by rw [cell_grown hg hv hne]; rfl, frozen_grown hg h2 hl hne⟩
theorem DiceOk.setCells {w : World} {d : Nat} {g : GD} {a : Int} (h : DiceOk w d g a) {b : Nat} (hb : b ≠ d) (hr : ∀ bl off s, g.A = some ⟨bl, off, s⟩ → 0 < g.n → bl ≠ b) (vs : List Value) (o : Nat) : DiceOk (w.setCells b o vs) d g a := by
  induction vs generalizing w o with
  | nil => exact h
  | cons v r ih => exact ih (h.set hb hr) (o + 1)
theorem size_setCells' (w : World) (b : Nat) (vs : List Value) (o : Nat) : (w.setCells b o vs).heap.size = w.heap.size := by
  induction vs generalizing w o with
  | nil => rfl
  | cons v r ih => rw [World.setCells, ih]; simp [World.setCell]
theorem range_app {w : World} {b o : Nat} {xs ys : List Value} (h1 : w.rangeAt b o xs) (h2 : w.rangeAt b (o + xs.length) ys) : w.rangeAt b o (xs ++ ys) := fun j v hv => by
  by_cases hj : j < xs.length
  · rw [List.getElem?_append_left hj] at hv
    exact h1 j v hv
  · rw [List.getElem?_append_right (by omega)] at hv
    have := h2 (j - xs.length) v hv
    rwa [show o + xs.length + (j - xs.length) = o + j by omega] at this
theorem there_new (w : World) (c : Array Value) (t : TypeId) (n : Nat) (hn : c.size = n) : (w.alloc (.cells c t)).there w.heap.size 0 n := fun j hj => by
  rw [Nat.zero_add, World.cell?_alloc_mark, Array.getElem?_eq_getElem (by omega)]
  exact ⟨rfl, frozen_new rfl⟩
theorem there_alloc {w : World} {b o n : Nat} (h : w.there b o n) (hl : b < w.heap.size) (ob : Obj) : (w.alloc ob).there b o n := fun j hj => by
  obtain ⟨h1, h2⟩ := h j hj
  obtain ⟨v, hv⟩ := Option.isSome_iff_exists.1 h1
  exact ⟨by rw [cell_alloc_keep hv]; rfl, frozen_alloc_keep hl h2⟩
theorem there_past {w : World} {c : Array Value} {t : TypeId} {n : Nat} {ob : Obj} (h : (w.alloc (.cells c t)).there w.heap.size 0 n) : ((w.alloc (.cells c t)).alloc ob).there w.heap.size 0 n := there_alloc h (by simp) ob
theorem GD.ok.new {g : GD} {w : World} (h : g.ok w) (o : Obj) : g.ok (w.alloc o) := gd_below' h (Below.alloc (Below.refl _ _) (Nat.le_refl _) _)
theorem dice_new (w : World) (T : TypeId) (d : Nat) (hd : d = w.heap.size) (g : GD) (hk : g.ks = [true]) (hn : g.n ≤ 1000) (o : g.ok w) (hne : ∀ bl off s, g.A = some ⟨bl, off, s⟩ → 0 < g.n → bl ≠ w.heap.size) : DiceOk (w.alloc (.cells #[.slice g.A g.n g.c, .int .i64 0] T)) d g 0 := by
  subst hd
  exact ⟨World.cell?_alloc_mark w _ _ _ 0, World.cell?_alloc_mark w _ _ _ 1, fun o => frozen_new rfl, by simp, o.new _, hne, hk, hn⟩
theorem grown_setCells' (w : World) (b : Nat) (vs : List Value) (o : Nat) : w.grownBy (w.setCells b o vs) (some b) := by
  induction vs generalizing w o with
  | nil => exact World.grownBy.refl _ _
  | cons v r ih => exact (grown_set w b o v).trans (ih _ _)
theorem range_tail {w : World} {b : Nat} {xs ys : List Value} (h : w.rangeAt b 0 (xs ++ ys)) : w.rangeAt b xs.length ys := fun j v hv => by
  have := h (xs.length + j) v (by rw [List.getElem?_append_right (by omega), Nat.add_sub_cancel_left]; exact hv)
  rwa [Nat.zero_add] at this
theorem there_sub {w : World} {b o n o' m : Nat} (h : w.there b o n) (h1 : o ≤ o') (h2 : o' + m ≤ o + n) : w.there b o' m := fun j hj => by
  have := h (o' - o + j) (by omega)
  rwa [show o + (o' - o + j) = o' + j by omega] at this
theorem results_cell1 {fn : Func} {p : Tmp} {ty : TypeId} (h : fn.results = #[.cell p ty]) (tmps : Array Value) (P : Program) (w : World) :
    (results fn tmps).run P w = ((asAddr (tmps.getD p undef)).run P w).andThen fun a w₁ => (loadVar ty a).run P w₁ := by
  simp only [results, h]
  simp [Sem.run_bind, Result.andThen]
def craftL (x y : Ax) (li co : Int) : List Value := x.cells ++ (y.cells ++ [.int .i64 li, .int .i64 co])
set_option maxRecDepth 100000 in
set_option maxHeartbeats 4000000 in
theorem craftFrom (g : GD) (hk : g.ks = [true]) (hn : g.n ≤ 1000) (w : World) (o : g.ok w) :
    Calls Try.prog 63 #[.slice g.A g.n g.c] w fun e w' => ∃ (x y : Ax) (li co : Int), e = .returned (.agg (craftL x y li co).toArray) ∧ x.Fine ∧ y.Fine ∧ 0 ≤ li ∧ li ≤ 99 ∧ 1 ≤ co ∧ co ≤ 10 ∧ Below w.heap.size w w' := by
  have HG := Lib.hid o
  have hraw : ∀ bl off s, g.A = some ⟨bl, off, s⟩ → 0 < g.n → bl < w.heap.size := fun bl off s e hn => by
    obtain ⟨bl', off', e1, e2, _⟩ := o.cell 0 0 hn (by rw [hk]; decide)
    rw [e] at e1
    cases e1
    exact e2
  clear o
  go_enter Try.func63, Try.ntmps63
  go_upto_region 2 with fail
  refine wp_world (fun ω => Below w.heap.size w ω ∧ DiceOk ω (w.heap.size + 1) g 0 ∧ ω.there w.heap.size 0 32 ∧ w.heap.size + 1 < ω.heap.size) ⟨by (repeat' (first | (with_reducible exact Below.refl _ _) | (with_reducible assumption) | (with_reducible refine Below.alloc ?_ ?_ _) | (with_reducible refine Below.drew ?_) | (with_reducible refine below_drewN ?_ _) | (with_reducible refine Below.setCell ?_ ?_ _) | (with_reducible refine Below.trans ?_ (Below.mono (by assumption) ?_)) | omega | (simp; omega) | (simp; done))), dice_new _ _ _ (by simp) g hk hn (HG.out.new _) (fun bl off s e h0 => by have := hraw bl off s e h0; simp; omega), there_past (there_new _ _ _ 32 rfl), by simp⟩ ?_
  rintro w2 ⟨hB2, hD2, hT2, hs2⟩
  generalize hd : w.heap.size + 1 = d at *
  have hd1 : w.heap.size < d := by omega
  clear hd HG
  go_upto_region 3 with (first | (go_at_call 115; ((with_reducible refine (diceN _ _ _ 100 _ hD2 (by omega) (by omega) (by omega) (by omega)).mono ?_); rintro e w5a ⟨va, rfl, hva, hua, hda, hga⟩; have hza := hga.size; (repeat (first | simp only [World.size_alloc] at hza | simp only [World.size_drew] at hza | simp only [World.size_setCell] at hza)))) | (go_at_call 115; ((with_reducible refine (diceN _ _ _ 10 _ hda (by omega) (by omega) (by omega) (by omega)).mono ?_); rintro e w5b ⟨vb, rfl, hvb, hub, hdb, hgb⟩; have hzb := hgb.size; (repeat (first | simp only [World.size_alloc] at hzb | simp only [World.size_drew] at hzb | simp only [World.size_setCell] at hzb)))) | (refine wpList_store_mid (by with_reducible rfl) 86 (.tmp 4) (.tmp 14) (by with_reducible rfl) w5b.heap.size 0 (List.toArray [.int .i64 0, .int .i64 0, .int .i64 0, .int .i64 0, .int .i64 0, .int .i64 0, .int .i64 0, .int .i64 0, .int .i64 0, .int .i64 0, .int .i64 0, .int .i64 0, .slice none 0 0, .slice none 0 0, .int .i64 0, .int .i64 0, .int .i64 0, .int .i64 0, .int .i64 0, .int .i64 0, .int .i64 0, .int .i64 0, .int .i64 0, .int .i64 0, .int .i64 0, .int .i64 0, .int .i64 0, .slice none 0 0, .slice none 0 0, .int .i64 0, .int .i64 va, .int .i64 (1 + vb)]) rfl rfl (there_new _ _ _ 32 rfl) sizeCraft (by simp [Value.oneCell']) ?_) | fail)
  refine wp_world (fun ω => Below w.heap.size w ω ∧ (∃ at', DiceOk ω d g at' ∧ 0 ≤ at' ∧ at' ≤ 2) ∧ ω.there w.heap.size 0 32 ∧ ω.there w5b.heap.size 0 32 ∧ ω.rangeAt w5b.heap.size 30 [.int .i64 va, .int .i64 (1 + vb)] ∧ w5b.heap.size < ω.heap.size) ⟨Below.grown (Below.alloc (Below.grown (Below.grown hB2 hga (by omega) (fun k hk => by cases hk; omega)) hgb (by omega) (fun k hk => by cases hk; omega)) (by omega) _) (grown_setCells' _ w5b.heap.size _ 0) (by simp; omega) (fun k hk => by cases hk; omega), ⟨_, (hdb.alloc _).setCells (by omega) (fun bl off s e h0 => by have := hraw bl off s e h0; omega) _ 0, by omega, by omega⟩, World.there_setCells (there_alloc (there_grown (there_grown hT2 hga (by omega) (by omega)) hgb (by omega) (by omega)) (by omega) _) _ _ _, World.there_setCells (there_new _ _ _ 32 rfl) _ _ _, range_tail (xs := [.int .i64 0, .int .i64 0, .int .i64 0, .int .i64 0, .int .i64 0, .int .i64 0, .int .i64 0, .int .i64 0, .int .i64 0, .int .i64 0, .int .i64 0, .int .i64 0, .slice none 0 0, .slice none 0 0, .int .i64 0, .int .i64 0, .int .i64 0, .int .i64 0, .int .i64 0, .int .i64 0, .int .i64 0, .int .i64 0, .int .i64 0, .int .i64 0, .int .i64 0, .int .i64 0, .int .i64 0, .slice none 0 0, .slice none 0 0, .int .i64 0]) (ys := [.int .i64 va, .int .i64 (1 + vb)]) (World.rangeAt_setCells_same _ _ 0 _ (there_new _ _ _ 32 rfl)), by rw [size_setCells']; simp⟩ ?_
  have hcb : d < w5b.heap.size := by omega
  clear hB2 hD2 hT2 hs2 hda hga hza hdb hgb hzb
  rintro w3 ⟨hB3, ⟨a3, hD3, p3, q3⟩, hT3, hC3, hR3, hs3⟩
  generalize w5b.heap.size = cb at *
  have hrc : ∀ bl off s, g.A = some ⟨bl, off, s⟩ → 0 < g.n → bl ≠ cb := fun bl off s e h0 => by have := hraw bl off s e h0; omega
  have hrz : ∀ bl off s, g.A = some ⟨bl, off, s⟩ → 0 < g.n → bl ≠ w.heap.size := fun bl off s e h0 => by have := hraw bl off s e h0; omega
  have hcd : cb ≠ d := by omega
  have hwd : w.heap.size ≠ d := by omega
  go_wp2_with fail
  refine wp_loop_rounds 3 ?_
  rw [rounds_succ]
  go_upto_region 6 with fail
  go_upto_region 5 with (first | (go_at_call 138; ((with_reducible refine (axisFrom _ _ _ _ hD3 (by omega) (by omega)).mono ?_); rintro e w5x ⟨x, rfl, hx, hgx, ax, hDx, px, qx⟩; have hzx := hgx.size; have hCx := there_grown hC3 hgx hcd hs3)) | (refine wpList_store_mid (by with_reducible rfl) 83 (.tmp 23) (.tmp 21) (by with_reducible rfl) cb 0 x.cells.toArray (by rfl) (by rfl) (there_sub hCx (by omega) (by show 0 + 15 ≤ 0 + 32; omega)) sizeAxis x.one ?_) | fail)
  refine wp_world (fun ω => Below w.heap.size w ω ∧ (∃ at', DiceOk ω d g at' ∧ 0 ≤ at' ∧ at' ≤ 102) ∧ ω.there w.heap.size 0 32 ∧ ω.there cb 0 32 ∧ ω.rangeAt cb 30 [.int .i64 va, .int .i64 (1 + vb)] ∧ ω.rangeAt cb 0 x.cells ∧ cb < ω.heap.size) ⟨Below.grown (Below.grown hB3 hgx (by omega) (fun k hk => by cases hk; omega)) (grown_setCells' _ cb _ 0) (by omega) (fun k hk => by cases hk; omega), ⟨ax, hDx.setCells hcd hrc _ 0, by omega, by omega⟩, World.there_setCells (there_grown hT3 hgx (by omega) (by omega)) _ _ _, World.there_setCells hCx _ _ _, World.rangeAt_setCells_apart (range_grown hR3 hgx hcd) cb 0 _ (.inr (.inr (by show 0 + 15 ≤ 30; omega))), World.rangeAt_setCells_same _ _ 0 _ (there_sub hCx (by omega) (by show 0 + 15 ≤ 0 + 32; omega)), by rw [size_setCells']; omega⟩ ?_
  clear hB3 hD3 hT3 hC3 hR3 hs3 p3 q3 hgx hDx hzx hCx px qx
  rintro w4 ⟨hB4, ⟨a4, hD4, p4, q4⟩, hT4, hC4, hR4, hX4, hs4⟩
  go_wp2_with fail
  rw [rounds_succ]
  go_upto_region 6 with fail
  go_upto_region 5 with (first | (go_at_call 138; ((with_reducible refine (axisFrom _ _ _ _ hD4 (by omega) (by omega)).mono ?_); rintro e w5y ⟨y, rfl, hy, hgy, ay, hDy, py, qy⟩; have hzy := hgy.size; have hCy := there_grown hC4 hgy hcd hs4)) | (refine wpList_store_mid (by with_reducible rfl) 83 (.tmp 23) (.tmp 21) (by with_reducible rfl) cb 15 y.cells.toArray (by rfl) (by rfl) (there_sub hCy (by omega) (by show 15 + 15 ≤ 0 + 32; omega)) sizeAxis y.one ?_) | fail)
  refine wp_world (fun ω => Below w.heap.size w ω ∧ ω.there w.heap.size 0 32 ∧ ω.rangeAt cb 0 (craftL x y va (1 + vb)) ∧ w.heap.size < ω.heap.size) ⟨Below.grown (Below.grown hB4 hgy (by omega) (fun k hk => by cases hk; omega)) (grown_setCells' _ cb _ 15) (by omega) (fun k hk => by cases hk; omega), World.there_setCells (there_grown hT4 hgy (by omega) (by omega)) _ _ _, range_app (World.rangeAt_setCells_apart (range_grown hX4 hgy hcd) cb 15 _ (.inr (.inl (by show 0 + 15 ≤ 15; omega)))) (range_app (World.rangeAt_setCells_same _ _ 15 _ (there_sub hCy (by omega) (by show 15 + 15 ≤ 0 + 32; omega))) (World.rangeAt_setCells_apart (range_grown hR4 hgy hcd) cb 15 _ (.inr (.inr (by show 15 + 15 ≤ 30; omega))))), by rw [size_setCells']; omega⟩ ?_
  clear hB4 hD4 hT4 hC4 hR4 hX4 hs4 p4 q4 hgy hDy hzy hCy py qy
  rintro w6 ⟨hB6, hT6, hX6, hs6⟩
  go_wp2_with fail
  rw [rounds_succ]
  go_upto_region 7 with fail
  go_wp2_with (first | (refine wpList_load_mid (by with_reducible rfl) 86 (.tmp 4) (by with_reducible rfl) cb 0 (by rfl) (craftL x y va (1 + vb)) _ hX6 Try.underlying86 rfl sizeCraft ?_) | (refine wpList_store_mid (by with_reducible rfl) 86 (.tmp 2) (.tmp 24) (by with_reducible rfl) w.heap.size 0 (craftL x y va (1 + vb)).toArray (by rfl) (by rfl) hT6 sizeCraft (by simp [craftL, Ax.cells, Value.oneCell']) ?_) | fail)
  have hld := run_loadVar_mid (P := Try.prog) (w6.setCells w.heap.size 0 (craftL x y va (1 + vb))) w.heap.size 0 86 (craftL x y va (1 + vb)) _ (World.rangeAt_setCells_same _ _ 0 _ hT6) Try.underlying86 rfl sizeCraft
  refine bodyPost_ret (v := .agg (craftL x y va (1 + vb)).toArray) ?_ rfl ⟨x, y, va, 1 + vb, rfl, hx, hy, by omega, by omega, by omega, by omega, Below.grown hB6 (grown_setCells' _ w.heap.size _ 0) (by omega) (fun k hk => by cases hk; omega)⟩
  rw [results_cell1 Try.results63]
  simp only [Act.put]
  simp [asAddr, Result.andThen, hld]
end Go.Proofs.Ytdfpenjhpemokaa.Sx
