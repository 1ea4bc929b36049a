/-
  The law TopGuardMade walked.
-/
import Derived.Test.YtdfpenjhpemokaaWTopGuard
import Derived.Test.YtdfpenjhpemokaaServos
import Derived.Deep.AppendLies
set_option linter.unusedVariables false
namespace Go.Proofs.Ytdfpenjhpemokaa.Sx
open Go.RowKit
theorem craftAxes (x y : Ax) (li co : Int) (w : World) : (Instr.field 86 (.agg (craftL x y li co).toArray) 0).run Try.prog w = .ok (.agg (x.cells ++ y.cells).toArray) w := by
  obtain ⟨x0, x1, x2, x3, x4, x5, x6, x7, x8, x9, xa, xb, xc, xd, xe⟩ := x
  obtain ⟨y0, y1, y2, y3, y4, y5, y6, y7, y8, y9, ya, yb, yc, yd, ye⟩ := y
  simp [Instr.field, run_underlying Try.underlying86, craftL, Ax.cells, asAgg, go_sem]
theorem axes0 (x y : Ax) (w : World) : (Instr.index 84 (.agg (x.cells ++ y.cells).toArray) (.int .i64 0)).run Try.prog w = .ok (.agg x.cells.toArray) w := by
  obtain ⟨x0, x1, x2, x3, x4, x5, x6, x7, x8, x9, xa, xb, xc, xd, xe⟩ := x
  obtain ⟨y0, y1, y2, y3, y4, y5, y6, y7, y8, y9, ya, yb, yc, yd, ye⟩ := y
  simp [Instr.index, run_underlying Try.underlying84, Ax.cells, asIntOf, go_sem]
theorem infoGust : (Try.prog.info? 195).map (fun i => (i.zero, i.size, i.bytes)) = some (some (.agg #[.int .i64 0, .int .i64 0, .int .i64 0]), 3, 24) := by kernel_rfl
theorem dice_new5 (w : World) (T : TypeId) (d : Nat) (hd : d = w.heap.size) (g : GD) (hk : g.ks = [true]) (hn : g.n ≤ 1000) (o : g.ok w) (hne : ∀ bl off s, g.A = some ⟨bl, off, s⟩ → 0 < g.n → bl ≠ w.heap.size) : DiceOk (w.alloc (.cells #[.slice g.A g.n g.c, .int .i64 5] T)) d g 5 := by
  subst hd
  exact ⟨World.cell?_alloc_mark w _ _ _ 0, World.cell?_alloc_mark w _ _ _ 1, fun o => frozen_new rfl, by simp, o.new _, hne, hk, hn⟩
theorem gCells4 (w : World) (x y z u : Int) (t : TypeId) (b : Nat) (hb : b = w.heap.size) : ∀ k, k < 4 → (w.alloc (.cells #[.int .i64 x, .int .i64 y, .int .i64 z, .int .i64 u] t)).cell? ⟨b, k, none⟩ = some (.int .i64 ([x, y, z, u][k]?.getD 0)) := by
  subst hb
  intro k hk
  rw [World.cell?_alloc_mark]
  match k, hk with
  | 0, _ => rfl
  | 1, _ => rfl
  | 2, _ => rfl
  | 3, _ => rfl
theorem carry_alloc {w : World} {b n : Nat} {f : Nat → Int} (h : ∀ k, k < n → w.cell? ⟨b, k, none⟩ = some (.int .i64 (f k))) (o : Obj) : ∀ k, k < n → (w.alloc o).cell? ⟨b, k, none⟩ = some (.int .i64 (f k)) := fun k hk => cell_alloc_keep (h k hk)
theorem carry_drew {w : World} {b n : Nat} {f : Nat → Int} (h : ∀ k, k < n → w.cell? ⟨b, k, none⟩ = some (.int .i64 (f k))) : ∀ k, k < n → w.drew.cell? ⟨b, k, none⟩ = some (.int .i64 (f k)) := h
theorem carry_grown {w w' : World} {b n d : Nat} {f : Nat → Int} (h : ∀ k, k < n → w.cell? ⟨b, k, none⟩ = some (.int .i64 (f k))) (hg : w.grownBy w' (some d)) (hne : b ≠ d) : ∀ k, k < n → w'.cell? ⟨b, k, none⟩ = some (.int .i64 (f k)) := fun k hk => cell_grown hg (h k hk) hne
def gsL (L : List (Int × Int × Int)) : List Value := L.flatMap fun s => [.int .i64 s.1, .int .i64 s.2.1, .int .i64 s.2.2]
theorem gsL_snoc (L : List (Int × Int × Int)) (s : Int × Int × Int) : gsL (L ++ [s]) = gsL L ++ [.int .i64 s.1, .int .i64 s.2.1, .int .i64 s.2.2] := by simp [gsL]
theorem gsL_at : ∀ (L : List (Int × Int × Int)) (i : Nat), i < L.length → (gsL L)[i * 3]? = some (.int .i64 (L[i]?.getD (0, 0, 0)).1) ∧ (gsL L)[i * 3 + 1]? = some (.int .i64 (L[i]?.getD (0, 0, 0)).2.1) ∧ (gsL L)[i * 3 + 2]? = some (.int .i64 (L[i]?.getD (0, 0, 0)).2.2)
  | [], i, h => absurd h (Nat.not_lt_zero _)
  | s :: r, 0, _ => ⟨rfl, rfl, rfl⟩
  | s :: r, i + 1, h => by
    have ih := gsL_at r i (by simpa using h)
    have e : (i + 1) * 3 = i * 3 + 1 + 1 + 1 := by omega
    rw [e]
    exact ih
theorem gust_open {w : World} {base t : Nat} {v : Value} {n : Nat} {L : List (Int × Int × Int)} (h : w.ownsRow base t 3 v n (gsL L)) (hL : L.length = n) : ∃ A c, v = .slice A n c ∧ GustCells w A n (fun i => (L[i]?.getD (0, 0, 0)).1) (fun i => (L[i]?.getD (0, 0, 0)).2.1) (fun i => (L[i]?.getD (0, 0, 0)).2.2) := by
  have hadd : ∀ g j, (⟨g, 0, none⟩ : Addr).add j = ⟨g, 0 + j, none⟩ := fun g j => by unfold Addr.add; split <;> simp_all
  rcases h.2 with ⟨rfl, rfl⟩ | ⟨g, cap, cur, rfl, _⟩
  · exact ⟨none, 0, rfl, fun k hk => absurd hk (Nat.not_lt_zero _)⟩
  · refine ⟨_, cap, rfl, fun k hk => ⟨g, 0, rfl, (h.lt g rfl).2, ?_⟩⟩
    obtain ⟨e0, e1, e2⟩ := gsL_at L k (by omega)
    have f0 := h.cells (g := g) rfl _ _ e0
    have f1 := h.cells (g := g) rfl _ _ e1
    have f2 := h.cells (g := g) rfl _ _ e2
    rw [hadd] at f0 f1 f2
    exact ⟨f0, f1, f2⟩
theorem guard_most {x : Ax} (hx : x.Fine) : ∃ mo, IntKind.wrap .i64 ((x.su - 1) * x.tr) = mo ∧ 0 ≤ mo ∧ mo ≤ 3000 := by
  have h1 := hx.su
  have h2 := hx.tr
  have h3 := su_mul h1.1 h1.2 (show 0 ≤ x.tr by omega)
  exact ⟨(x.su - 1) * x.tr, IntWalk.i64_in _ ⟨by omega, by omega⟩, by omega, by omega⟩
theorem refGuardRuleA (x : Ax) (ps mo gr : Int) (w : World) (hx : x.Fine) (h1 : IntKind.wrap .i64 (x.pu + x.sl) = ps) (h2 : IntKind.wrap .i64 ((x.su - 1) * x.tr) = mo) (h3 : IntKind.wrap .i64 ((x.su - 1) * x.ra) = gr) :
    Calls Try.prog 62 #[.agg x.cells.toArray] w fun e w' => e = .returned (.agg #[.int .i64 x.lo, .int .i64 x.hi, .int .i64 x.no, .int .i64 ps, .int .i64 mo, .int .i64 gr]) ∧ Below w.heap.size w w' :=
  refGuardRule x.lo x.hi x.no x.pu x.su x.tr x.ra x.sl x.li x.co x.wa x.tu x.bu ps mo gr _ _ w hx.su.1 hx.su.2 h1 h2 h3
set_option maxRecDepth 100000 in
set_option maxHeartbeats 40000000 in
theorem topGuardMade_true (g : GD) (hk : g.ks = [true]) (n y z : Int) (bn : B64 n) (by' : B64 y) (bz : B64 z) (w : World) (o : g.ok w) :
    Calls Try.prog 24 #[.slice g.A g.n g.c, .int .i64 n, .int .i64 y, .int .i64 z] w fun e w' => e = .returned (.bool true) ∧ Below w.heap.size w w' := by
  have HG := Lib.hid o
  obtain ⟨i0, hif, hia, hib, hic⟩ := info_parts infoGust
  have hraw : ∀ bl off s, g.A = some ⟨bl, off, s⟩ → 0 < g.n → bl < w.heap.size := fun bl off s e hn => by
    obtain ⟨bl', off', e1, e2, _⟩ := o.cell 0 0 hn (by rw [hk]; decide)
    rw [e] at e1
    cases e1
    exact e2
  clear o
  have hw3 : IntKind.wrap .i64 (y % 3 - 1) = y % 3 - 1 := IntWalk.i64_in _ ⟨by omega, by omega⟩
  go_enter Try.func24, Try.ntmps24
  by_cases hn : 100 < g.n
  · go_wp2_with fail
    go_ret
    exact ⟨rfl, by (repeat' (first | (with_reducible exact Below.refl _ _) | (with_reducible assumption) | (with_reducible refine Below.alloc ?_ ?_ _) | (with_reducible refine Below.drew ?_) | (with_reducible refine below_drewN ?_ _) | (with_reducible refine Below.setCell ?_ ?_ _) | (with_reducible refine Below.trans ?_ (Below.mono (by assumption) ?_)) | omega | (simp; omega) | (simp; done)))⟩
  · go_upto_region 4 with (first | (go_at_call 63; ((with_reducible refine (craftFrom g hk (by omega) _ HG.out).mono ?_); rintro e w5 ⟨x, y', li, co, rfl, hx, hy, l1, l2, l3, l4, hb5⟩; have hz5 := hb5.size; have hf5 := craftAxes x y' li co; have hi5 := axes0 x y'; obtain ⟨ps, hps⟩ : ∃ v, IntKind.wrap .i64 (x.pu + x.sl) = v := ⟨_, rfl⟩; obtain ⟨gr, hgr⟩ : ∃ v, IntKind.wrap .i64 ((x.su - 1) * x.ra) = v := ⟨_, rfl⟩; obtain ⟨mo, hmo, mo1, mo2⟩ := guard_most hx)) | (go_at_call 62; ((with_reducible refine (refGuardRuleA x ps mo gr _ hx hps hmo hgr).mono ?_); rintro e w6 ⟨rfl, hb6⟩; have hz6 := hb6.size)) | fail)
    refine wp_world (fun ω => Below w.heap.size w ω ∧ w6.heap.size < ω.heap.size ∧ ω.cell? ⟨w6.heap.size, 0, none⟩ = some (.int .i64 x.lo) ∧ ω.cell? ⟨w6.heap.size, 1, none⟩ = some (.int .i64 x.hi) ∧ ω.cell? ⟨w6.heap.size, 2, none⟩ = some (.int .i64 x.no) ∧ ω.cell? ⟨w6.heap.size, 3, none⟩ = some (.int .i64 ps) ∧ ω.cell? ⟨w6.heap.size, 4, none⟩ = some (.int .i64 mo) ∧ ω.cell? ⟨w6.heap.size, 5, none⟩ = some (.int .i64 gr)) ⟨by (repeat' (first | (with_reducible exact Below.refl _ _) | (with_reducible assumption) | (with_reducible refine Below.alloc ?_ ?_ _) | (with_reducible refine Below.drew ?_) | (with_reducible refine below_drewN ?_ _) | (with_reducible refine Below.setCell ?_ ?_ _) | (with_reducible refine Below.trans ?_ (Below.mono (by assumption) ?_)) | omega | (simp; omega) | (simp; done))), by simp, World.cell?_alloc_mark w6 _ _ _ 0, World.cell?_alloc_mark w6 _ _ _ 1, World.cell?_alloc_mark w6 _ _ _ 2, World.cell?_alloc_mark w6 _ _ _ 3, World.cell?_alloc_mark w6 _ _ _ 4, World.cell?_alloc_mark w6 _ _ _ 5⟩ ?_
    have hsb : w.heap.size ≤ w6.heap.size := by omega
    obtain ⟨_, _, _, _, _, ⟨no1, no2⟩, _, _, _⟩ := hx
    clear hb5 hb6 hz5 hz6 hf5 hi5 hps hgr hmo
    generalize x.lo = lo at *
    generalize x.hi = hi at *
    generalize x.no = no at *
    generalize w6.heap.size = rb at *
    rintro w7 ⟨hB7, hs7, q0, q1, q2, q3, q4, q5⟩
    have hno : IntKind.wrap .i64 (-no) = -no := IntWalk.i64_in _ ⟨by omega, by omega⟩
    have hmo : IntKind.wrap .i64 (mo + 1) = mo + 1 := IntWalk.i64_in _ ⟨by omega, by omega⟩
    go_upto_region 5 with fail
    refine wp_world (fun ω => Below w.heap.size w ω ∧ w7.heap.size < ω.heap.size ∧ DiceOk ω w7.heap.size g 5 ∧ ω.cell? ⟨rb, 0, none⟩ = some (.int .i64 lo) ∧ ω.cell? ⟨rb, 1, none⟩ = some (.int .i64 hi) ∧ ω.cell? ⟨rb, 2, none⟩ = some (.int .i64 no) ∧ ω.cell? ⟨rb, 3, none⟩ = some (.int .i64 ps) ∧ ω.cell? ⟨rb, 4, none⟩ = some (.int .i64 mo) ∧ ω.cell? ⟨rb, 5, none⟩ = some (.int .i64 gr)) ⟨by (repeat' (first | (with_reducible exact Below.refl _ _) | (with_reducible assumption) | (with_reducible refine Below.alloc ?_ ?_ _) | (with_reducible refine Below.drew ?_) | (with_reducible refine below_drewN ?_ _) | (with_reducible refine Below.setCell ?_ ?_ _) | (with_reducible refine Below.trans ?_ (Below.mono (by assumption) ?_)) | omega | (simp; omega) | (simp; done))), by simp, dice_new5 _ _ _ rfl g hk (by omega) (gd_below' HG.out (hB7.mono (Nat.le_refl _))) (fun bl off s e h0 => by have := hraw bl off s e h0; have := hB7.size; omega), cell_alloc_keep q0, cell_alloc_keep q1, cell_alloc_keep q2, cell_alloc_keep q3, cell_alloc_keep q4, cell_alloc_keep q5⟩ ?_
    have hdw : w.heap.size ≤ w7.heap.size := hB7.size
    have hrd : rb ≠ w7.heap.size := by omega
    clear hB7 q0 q1 q2 q3 q4 q5
    generalize w7.heap.size = d at *
    rintro w8 ⟨hB8, hs8, hD8, q0, q1, q2, q3, q4, q5⟩
    clear HG
    go_upto_region 7 with (first | (go_at_call 64; ((with_reducible refine (refPick _ _ _ (by omega) (by omega)).mono ?_); rintro e w9 ⟨rfl, rfl⟩)) | fail)
    clear hw3
    generalize y % 3 - 1 = p at *
    obtain ⟨mz, hmz, mz2⟩ : ∃ m : Nat, z % 200 = (m : Int) ∧ m < 200 := ⟨(z % 200).toNat, by omega, by omega⟩
    go_wp2_with fail
    clear hmo
    have hmo : IntKind.wrap .i64 (mo + 1) = mo + 1 := IntWalk.i64_in _ ⟨by omega, by omega⟩
    go_loopw [11, 12] (fun v i wr => ∃ (k : Nat) (L : List (Int × Int × Int)), k ≤ mz ∧ i = .int .i64 k ∧ L.length = k ∧ wr.ownsRow w8.heap.size 195 3 v k (gsL L) ∧ w8.grownBy wr (some d) ∧ (∃ a', DiceOk wr d g a' ∧ 0 ≤ a' ∧ a' ≤ 5 + 5 * k)) (fun _ i _ => mz - (intOf i).toNat)
    case atStart => exact ⟨0, [], Nat.zero_le _, rfl, rfl, World.ownsRow_nil _ _ _ _, World.grownBy.refl _ _, ⟨5, hD8, by omega, by omega⟩⟩
    case round =>
      obtain ⟨k, L, hkm, rfl, hLk, hown, hG, ⟨ak, hD, p1, p2⟩⟩ := hrel
      have k0 := cell_grown hG q0 hrd
      have k1 := cell_grown hG q1 hrd
      have k2 := cell_grown hG q2 hrd
      have k3 := cell_grown hG q3 hrd
      have k4 := cell_grown hG q4 hrd
      have k5 := cell_grown hG q5 hrd
      have hsr := hG.size
      by_cases hlt : k < mz
      · have hqA : ∀ q, u11.ownBlock = some q → w8.heap.size ≤ q := fun q hq => (hown.lt q hq).1
        clear q0 q1 q2 q3 q4 q5 k0 k1 k5
        go_upto_region 10 with (first | (go_at_call 64; ((with_reducible refine (refPick _ _ _ (by omega) (by omega)).mono ?_); rintro e w9 ⟨rfl, rfl⟩)) | fail)
        go_region_held3 (fun ω => ω.cell? ⟨rb, 2, none⟩ = some (.int .i64 no) ∧ ω.cell? ⟨rb, 3, none⟩ = some (.int .i64 ps) ∧ ω.cell? ⟨rb, 4, none⟩ = some (.int .i64 mo)) (refine ⟨?_, ?_, ?_⟩ <;> (repeat' (first | (with_reducible assumption) | (with_reducible refine cell_alloc_keep ?_) | (with_reducible refine cell_drew_keep ?_) | (with_reducible refine cell_drewN_keep ?_) | (with_reducible refine cell_grown (by with_reducible assumption) ?_ hrd) | ((refine hgA.cell (a := ⟨rb, _, none⟩) ?_ ?_) <;> (first | (with_reducible assumption) | (exact fun e => by have := hqA rb e.symm; omega) | skip))))) (first | (go_at_call 116; ((have := hM2); (with_reducible refine (diceMost _ g (ak + 1 + 1 + 1) _ 4 _ [p, p, 1, -1] _ (by (first | (with_reducible exact hdc) | (with_reducible exact DiceOk.alloc hdc _) | (with_reducible exact DiceOk.alloc (DiceOk.alloc hdc _) _) | (with_reducible exact DiceOk.alloc (DiceOk.alloc (DiceOk.alloc hdc _) _) _))) (by omega) (by omega) rfl (by omega) (by omega) (by first | omega | (simp only [World.size_drew, World.size_alloc]; omega)) (by first | omega | (simp; done) | (simp only [World.size_drew, World.size_alloc]; omega)) (by (repeat' (first | (with_reducible assumption) | (with_reducible exact gCells4 _ _ _ _ _ _ _ (by first | (simp; done) | omega)) | (with_reducible exact diceCells3 _ _ _ _ _ _ (by first | (simp; done) | omega)) | (with_reducible refine carry_drew ?_) | (with_reducible refine carry_alloc ?_ _) | ((with_reducible refine carry_grown ?_ (by with_reducible assumption) ?_) <;> (first | omega | (with_reducible assumption) | skip)))))).mono ?_); rintro e w5d ⟨vd, rfl, hvd, hdd, hgd⟩; have hzd := hgd.size; (repeat (first | simp only [World.size_alloc] at hzd | simp only [World.size_drew] at hzd | simp only [World.size_setCell] at hzd)))) | (go_at_call 116; ((with_reducible refine (diceMost _ g (ak + 1 + 1) _ 4 _ [p, p, 1, -1] _ (by (first | (with_reducible exact hdb) | (with_reducible exact DiceOk.alloc hdb _) | (with_reducible exact DiceOk.alloc (DiceOk.alloc hdb _) _) | (with_reducible exact DiceOk.alloc (DiceOk.alloc (DiceOk.alloc hdb _) _) _))) (by omega) (by omega) rfl (by omega) (by omega) (by first | omega | (simp only [World.size_drew, World.size_alloc]; omega)) (by first | omega | (simp; done) | (simp only [World.size_drew, World.size_alloc]; omega)) (by (repeat' (first | (with_reducible assumption) | (with_reducible exact gCells4 _ _ _ _ _ _ _ (by first | (simp; done) | omega)) | (with_reducible exact diceCells3 _ _ _ _ _ _ (by first | (simp; done) | omega)) | (with_reducible refine carry_drew ?_) | (with_reducible refine carry_alloc ?_ _) | ((with_reducible refine carry_grown ?_ (by with_reducible assumption) ?_) <;> (first | omega | (with_reducible assumption) | skip)))))).mono ?_); rintro e w5c ⟨vc, rfl, hvc, hdc, hgc⟩; have hM2 := And.intro trivial trivial; have hzc := hgc.size; (repeat (first | simp only [World.size_alloc] at hzc | simp only [World.size_drew] at hzc | simp only [World.size_setCell] at hzc)))) | (go_at_call 116; ((with_reducible refine (diceMost _ g (ak + 1) _ 3 _ [no, -no, va - 1000] _ (by (first | (with_reducible exact hda) | (with_reducible exact DiceOk.alloc hda _) | (with_reducible exact DiceOk.alloc (DiceOk.alloc hda _) _) | (with_reducible exact DiceOk.alloc (DiceOk.alloc (DiceOk.alloc hda _) _) _))) (by omega) (by omega) rfl (by omega) (by omega) (by first | omega | (simp only [World.size_drew, World.size_alloc]; omega)) (by first | omega | (simp; done) | (simp only [World.size_drew, World.size_alloc]; omega)) (by (repeat' (first | (with_reducible assumption) | (with_reducible exact gCells4 _ _ _ _ _ _ _ (by first | (simp; done) | omega)) | (with_reducible exact diceCells3 _ _ _ _ _ _ (by first | (simp; done) | omega)) | (with_reducible refine carry_drew ?_) | (with_reducible refine carry_alloc ?_ _) | ((with_reducible refine carry_grown ?_ (by with_reducible assumption) ?_) <;> (first | omega | (with_reducible assumption) | skip)))))).mono ?_); rintro e w5b ⟨vb, rfl, hvb, hdb, hgb⟩; have hzb := hgb.size; (repeat (first | simp only [World.size_alloc] at hzb | simp only [World.size_drew] at hzb | simp only [World.size_setCell] at hzb)))) | (go_at_call 115; ((with_reducible refine (diceN _ g ak 2001 _ (by (first | (with_reducible exact DiceOk.drew hD) | (with_reducible exact DiceOk.drew (DiceOk.alloc hD _)) | (with_reducible exact DiceOk.drew (DiceOk.alloc (DiceOk.alloc hD _) _)) | (with_reducible exact hD) | (with_reducible exact DiceOk.alloc hD _) | (with_reducible exact DiceOk.alloc (DiceOk.alloc hD _) _) | (with_reducible exact DiceOk.alloc (DiceOk.alloc (DiceOk.alloc hD _) _) _))) (by omega) (by omega) (by omega) (by omega)).mono ?_); rintro e w5a ⟨va, rfl, hva, hua, hda, hga⟩; have hws : IntKind.wrap .i64 (va - 1000) = va - 1000 := IntWalk.i64_in _ ⟨by omega, by omega⟩; have hza := hga.size; (repeat (first | simp only [World.size_alloc] at hza | simp only [World.size_drew] at hza | simp only [World.size_setCell] at hza)))) | (go_at_call 115; ((with_reducible refine (diceN _ g (ak + 1 + 1 + 1 + 1) (mo + 1) _ (by (first | (with_reducible exact hdd) | (with_reducible exact DiceOk.alloc hdd _) | (with_reducible exact DiceOk.alloc (DiceOk.alloc hdd _) _) | (with_reducible exact DiceOk.alloc (DiceOk.alloc (DiceOk.alloc hdd _) _) _))) (by omega) (by omega) (by omega) (by omega)).mono ?_); rintro e w5e ⟨ve, rfl, hve, hue, hde, hge⟩; have hze := hge.size; (repeat (first | simp only [World.size_alloc] at hze | simp only [World.size_drew] at hze | simp only [World.size_setCell] at hze)))) | ((first | (refine wp_append_lies _ (.tmp 33) (.tmp 65) 193 rfl (w8.heap.size) 195 i0 (.agg #[.int .i64 0, .int .i64 0, .int .i64 0]) 3 24 Try.underlying193 hif hia hib hic rfl (by decide) u11 k (gsL L) rfl (by (repeat' (first | (with_reducible assumption) | (with_reducible refine World.ownsRow.drew ?_) | (with_reducible refine World.ownsRow.alloc ?_ _) | ((with_reducible refine ownsRow_grown ?_ (by with_reducible assumption) ?_) <;> (first | omega | skip))))) _ 1 1 [.int .i64 vb, .int .i64 (IntKind.wrap .i64 (vc * ps)), .int .i64 (IntKind.wrap .i64 (vd * ve))] rfl rfl (by intro j u hj; match j, hj with | 0, hj => (simp at hj; subst hj; simp [Addr.add]) | 1, hj => (simp at hj; subst hj; simp [Addr.add]) | 2, hj => (simp at hj; subst hj; simp [Addr.add])) (by intro u hu; simp at hu; rcases hu with rfl | rfl | rfl <;> rfl) (by decide) (by unfold maxLen; omega) (by omega) (by first | omega | (simp only [World.size_drew, World.size_alloc]; omega)) _ rfl ?_) | (refine step_append_lies _ rfl (.tmp 33) (.tmp 65) 193 rfl (w8.heap.size) 195 i0 (.agg #[.int .i64 0, .int .i64 0, .int .i64 0]) 3 24 Try.underlying193 hif hia hib hic rfl (by decide) u11 k (gsL L) rfl (by (repeat' (first | (with_reducible assumption) | (with_reducible refine World.ownsRow.drew ?_) | (with_reducible refine World.ownsRow.alloc ?_ _) | ((with_reducible refine ownsRow_grown ?_ (by with_reducible assumption) ?_) <;> (first | omega | skip))))) _ 1 1 [.int .i64 vb, .int .i64 (IntKind.wrap .i64 (vc * ps)), .int .i64 (IntKind.wrap .i64 (vd * ve))] rfl rfl (by intro j u hj; match j, hj with | 0, hj => (simp at hj; subst hj; simp [Addr.add]) | 1, hj => (simp at hj; subst hj; simp [Addr.add]) | 2, hj => (simp at hj; subst hj; simp [Addr.add])) (by intro u hu; simp at hu; rcases hu with rfl | rfl | rfl <;> rfl) (by decide) (by unfold maxLen; omega) (by omega) (by first | omega | (simp only [World.size_drew, World.size_alloc]; omega)) _ rfl ?_)); intro gA capA wA hownA hgA horA hltA) | fail)
        all_goals go_wp2
        all_goals go_roundw
        all_goals (first | exact ⟨k + 1, L ++ [(vb, IntKind.wrap .i64 (vc * ps), IntKind.wrap .i64 (vd * ve))], hlt, by go_num, by simp [hLk], by rw [gsL_snoc]; exact hownA, grown_own (by (repeat' (first | (with_reducible exact World.grownBy.refl _ _) | (with_reducible assumption) | (with_reducible refine grown_alloc ?_ _) | (with_reducible refine grown_drew ?_) | (with_reducible refine World.grownBy.trans ?_ (by with_reducible assumption))))) hgA hqA, ⟨ak + 1 + 1 + 1 + 1 + 1, DiceOk.far (by (repeat' (first | (with_reducible assumption) | (with_reducible refine DiceOk.alloc ?_ _) | (with_reducible refine DiceOk.drew ?_)))) hgA (fun q h => by have := hqA q h; omega) (fun bl off s e hn q h => by have := hqA q h; have := hraw bl off s e hn; omega), by omega, by omega⟩⟩ | (simp [intOf]; omega))
      · have hkm : k = mz := by omega
        subst hkm
        obtain ⟨A, cc, rfl, HC⟩ := gust_open hown hLk
        clear q0 q1 q2 q3 q4 q5
        go_wp2_with (first | (go_at_call 64; ((with_reducible refine (refPick _ _ _ (by omega) (by omega)).mono ?_); rintro e w9 ⟨rfl, rfl⟩)) | (go_at_call 23; ((with_reducible refine (TopGuard_all lo hi no ps mo gr n A k cc _ _ _ _ HC (by omega)).mono ?_); rintro e w10 ⟨rfl, hb10⟩)) | fail)
        go_ret
        exact ⟨rfl, Below.trans (Below.grown hB8 hG (by omega) (fun k hk => by cases hk; omega)) (hb10.mono (by omega))⟩
end Go.Proofs.Ytdfpenjhpemokaa.Sx
namespace Go.Proofs.Ytdfpenjhpemokaa
open Go.ChangeShapes Go.WideShapes Go.ChangeAt Go.Deep Go.RowKit in
set_option maxRecDepth 100000 in
theorem walkTopGuardMade {H : Type} (W : World) (base : Nat) (enc : TypeId × Value → H) (v0 v1 v2 v3 : Value) {d0 d1 d2 d3 : DataW H} {p0 p1 p2 p3 : List MemPlace}
    (k0 : Value.okWide Try.prog W .any base 78 v0) (k1 : Value.okWide Try.prog W .any base 3 v1) (k2 : Value.okWide Try.prog W .any base 3 v2) (k3 : Value.okWide Try.prog W .any base 3 v3)
    (h0 : DataW.Trod enc Try.prog W 0 (fun _ => true) true 78 v0 d0 p0) (_ : DataW.Trod enc Try.prog W 0 (fun _ => true) true 3 v1 d1 p1) (_ : DataW.Trod enc Try.prog W 0 (fun _ => true) true 3 v2 d2 p2) (_ : DataW.Trod enc Try.prog W 0 (fun _ => true) true 3 v3 d3 p3) :
    Calls Try.prog 24 #[v0, v1, v2, v3] W fun e W' => e = .returned (.bool true) ∧ Below W.heap.size W W' := by
  obtain ⟨g, hk, rfl, o⟩ := Sx.given_flat [true] (by decide) Try.underlying78 (by kernel_rfl) (by kernel_rfl) k0 h0
  obtain ⟨x, rfl, ex⟩ := okWide_int Try.underlying3 k1
  obtain ⟨y, rfl, ey⟩ := okWide_int Try.underlying3 k2
  obtain ⟨z, rfl, ez⟩ := okWide_int Try.underlying3 k3
  exact Sx.topGuardMade_true g hk x y z ex ey ez W o
end Go.Proofs.Ytdfpenjhpemokaa
