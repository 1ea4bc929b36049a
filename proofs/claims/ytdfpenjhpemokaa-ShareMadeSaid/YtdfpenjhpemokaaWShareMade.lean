/-
  The law ShareMade walked.
-/
import Derived.Test.YtdfpenjhpemokaaWShareSays
import Derived.Test.YtdfpenjhpemokaaServos
set_option linter.unusedVariables false
namespace Go.Proofs.Ytdfpenjhpemokaa.Sx
open Go.RowKit
theorem craftAxes (x y : Ax) (li co : Int) (w : World) : (Instr.field 86 (.agg (craftL x y li co).toArray) 0).run Try.prog w = .ok (.agg (x.cells ++ y.cells).toArray) w := by
  obtain ⟨x0, x1, x2, x3, x4, x5, x6, x7, x8, x9, xa, xb, xc, xd, xe⟩ := x
  obtain ⟨y0, y1, y2, y3, y4, y5, y6, y7, y8, y9, ya, yb, yc, yd, ye⟩ := y
  simp [Instr.field, run_underlying Try.underlying86, craftL, Ax.cells, asAgg, go_sem]
theorem axes0 (x y : Ax) (w : World) : (Instr.index 84 (.agg (x.cells ++ y.cells).toArray) (.int .i64 0)).run Try.prog w = .ok (.agg x.cells.toArray) w := by
  obtain ⟨x0, x1, x2, x3, x4, x5, x6, x7, x8, x9, xa, xb, xc, xd, xe⟩ := x
  obtain ⟨y0, y1, y2, y3, y4, y5, y6, y7, y8, y9, ya, yb, yc, yd, ye⟩ := y
  simp [Instr.index, run_underlying Try.underlying84, Ax.cells, asIntOf, go_sem]
def svGD (v : Value) (n : Nat) (L : List (Int × Int × Bool)) : GD where
  A := match v with | .slice A _ _ => A | _ => none
  c := match v with | .slice _ _ c => c | _ => 0
  n := n
  ks := [true, true, false]
  fi i j := if j = 0 then (L[i]?.getD (0, 0, false)).1 else if j = 1 then (L[i]?.getD (0, 0, false)).2.1 else 0
  fb i _ := (L[i]?.getD (0, 0, false)).2.2
theorem svL_at : ∀ (L : List (Int × Int × Bool)) (i j : Nat), i < L.length → j < 3 → (svL L)[i * 3 + j]? = some (match j with | 0 => .int .i64 (L[i]?.getD (0, 0, false)).1 | 1 => .int .i64 (L[i]?.getD (0, 0, false)).2.1 | _ => .bool (L[i]?.getD (0, 0, false)).2.2)
  | [], i, j, h, _ => absurd h (Nat.not_lt_zero _)
  | s :: r, 0, j, _, hj => by
    match j, hj with
    | 0, _ => rfl
    | 1, _ => rfl
    | 2, _ => rfl
  | s :: r, i + 1, j, h, hj => by
    have ih := svL_at r i j (by simpa using h) hj
    have e : (i + 1) * 3 + j = (i * 3 + j) + 1 + 1 + 1 := by omega
    rw [e]
    show (svL r)[i * 3 + j]? = _
    rw [ih]
    rfl
theorem svGD_ok {w : World} {base t : Nat} {v : Value} {n : Nat} {L : List (Int × Int × Bool)} (h : w.ownsRow base t 3 v n (svL L)) (hL : L.length = n) (hn : n ≤ 4) (hb : ∀ x ∈ L, B64 x.1 ∧ B64 x.2.1) : v = .slice (svGD v n L).A (svGD v n L).n (svGD v n L).c ∧ (svGD v n L).ok w := by
  have hbd : ∀ i : Nat, B64 (L[i]?.getD (0, 0, false)).1 ∧ B64 (L[i]?.getD (0, 0, false)).2.1 := fun i => by
    cases e : L[i]? with
    | none => exact ⟨by show B64 0; unfold B64; omega, by show B64 0; unfold B64; omega⟩
    | some s => exact hb s (List.mem_of_getElem? e)
  have hv : v = .slice (svGD v n L).A (svGD v n L).n (svGD v n L).c := by
    rcases h.2 with ⟨rfl, rfl⟩ | ⟨g, cap, cur, rfl, _⟩ <;> rfl
  refine ⟨hv, ⟨by show n ≤ _; omega, fun i j hi hj => ?_, fun i j => ?_⟩⟩
  · have hi' : i < n := hi
    have hj' : j < 3 := hj
    rcases h.2 with ⟨_, h0⟩ | ⟨g, cap, cur, rfl, _⟩
    · omega
    · refine ⟨g, 0, rfl, (h.lt g rfl).2, ?_⟩
      have e1 := svL_at L i j (by omega) hj'
      have e2 := h.cells (g := g) rfl _ _ e1
      refine Eq.trans ?_ (e2.trans ?_)
      · show w.cell? ⟨g, 0 + (i * 3 + j), none⟩ = w.cell? _
        simp [Addr.add]
        split
        · have h0 : i * 3 + j = 0 := by omega
          rw [h0]
        · rfl
      · match j, hj' with
        | 0, _ => rfl
        | 1, _ => rfl
        | 2, _ => rfl
  · show B64 (if j = 0 then _ else if j = 1 then _ else 0)
    by_cases h0 : j = 0
    · rw [if_pos h0]; exact (hbd i).1
    · rw [if_neg h0]
      by_cases h1 : j = 1
      · rw [if_pos h1]; exact (hbd i).2
      · rw [if_neg h1]; unfold B64; omega
set_option maxRecDepth 100000 in
set_option maxHeartbeats 2000000 in
theorem shareMade_true (g : GD) (hk : g.ks = [true]) (n z : Int) (bn : B64 n) (bz : B64 z) (w : World) (o : g.ok w) :
    Calls Try.prog 16 #[.slice g.A g.n g.c, .int .i64 n, .int .i64 z] w fun e w' => e = .returned (.bool true) ∧ Below w.heap.size w w' := by
  have HG := Lib.hid o
  have hraw : ∀ bl off s, g.A = some ⟨bl, off, s⟩ → 0 < g.n → bl < w.heap.size := fun bl off s e hn => by
    obtain ⟨bl', off', e1, e2, _⟩ := o.cell 0 0 hn (by rw [hk]; decide)
    rw [e] at e1
    cases e1
    exact e2
  clear o
  go_enter Try.func16, Try.ntmps16
  by_cases hn : 100 < g.n
  · go_wp2_with fail
    go_ret
    exact ⟨rfl, by (repeat' (first | (with_reducible exact Below.refl _ _) | (with_reducible assumption) | (with_reducible refine Below.alloc ?_ ?_ _) | (with_reducible refine Below.drew ?_) | (with_reducible refine below_drewN ?_ _) | (with_reducible refine Below.setCell ?_ ?_ _) | (with_reducible refine Below.trans ?_ (Below.mono (by assumption) ?_)) | omega | (simp; omega) | (simp; done)))⟩
  · go_upto_region 4 with fail
    refine wp_world (fun ω => Below w.heap.size w ω ∧ DiceOk ω w.heap.size g 0 ∧ w.heap.size < ω.heap.size) ⟨by (repeat' (first | (with_reducible exact Below.refl _ _) | (with_reducible assumption) | (with_reducible refine Below.alloc ?_ ?_ _) | (with_reducible refine Below.drew ?_) | (with_reducible refine below_drewN ?_ _) | (with_reducible refine Below.setCell ?_ ?_ _) | (with_reducible refine Below.trans ?_ (Below.mono (by assumption) ?_)) | omega | (simp; omega) | (simp; done))), dice_new _ _ _ rfl g hk (by omega) HG.out (fun bl off s e h0 => by have := hraw bl off s e h0; omega), by simp⟩ ?_
    rintro w4 ⟨hB4, hD4, hs4⟩
    have HG4 := Lib.hid hD4.ok
    clear HG
    go_upto_region 5 with (first | (go_at_call 63; ((with_reducible refine (craftFrom g hk (by omega) _ HG4.out).mono ?_); rintro e w5 ⟨x, y, li, co, rfl, hx, hy, l1, l2, l3, l4, hb5⟩; have hz5 := hb5.size; have hf5 := craftAxes x y li co; have hi5 := axes0 x y)) | (go_at_call 94; ((with_reducible refine (refActRule x _).mono ?_); rintro e w6 ⟨rfl, hb6⟩; have hz6 := hb6.size)) | fail)
    refine wp_world (fun ω => Below w.heap.size w ω ∧ DiceOk ω w.heap.size g 0 ∧ w6.heap.size < ω.heap.size ∧ ω.cell? ⟨w6.heap.size, 0, none⟩ = some (.int .i64 x.tr) ∧ ω.cell? ⟨w6.heap.size, 1, none⟩ = some (.int .i64 x.ra) ∧ ω.cell? ⟨w6.heap.size, 2, none⟩ = some (.int .i64 x.sl) ∧ ω.cell? ⟨w6.heap.size, 3, none⟩ = some (.int .i64 x.wa)) ⟨by (repeat' (first | (with_reducible exact Below.refl _ _) | (with_reducible assumption) | (with_reducible refine Below.alloc ?_ ?_ _) | (with_reducible refine Below.drew ?_) | (with_reducible refine below_drewN ?_ _) | (with_reducible refine Below.setCell ?_ ?_ _) | (with_reducible refine Below.trans ?_ (Below.mono (by assumption) ?_)) | omega | (simp; omega) | (simp; done))), ((hD4.below hb5).below hb6).alloc _, by simp, World.cell?_alloc_mark w6 _ _ _ 0, World.cell?_alloc_mark w6 _ _ _ 1, World.cell?_alloc_mark w6 _ _ _ 2, World.cell?_alloc_mark w6 _ _ _ 3⟩ ?_
    have hsb : w.heap.size < w6.heap.size := by omega
    obtain ⟨⟨_, _⟩, ⟨t1, t2⟩, ⟨r1, r2⟩, ⟨sl1, sl2⟩, _, _, _, ⟨c1, c2⟩, _⟩ := hx
    clear hB4 hD4 hb5 hb6 hz5 hz6 hs4 hf5 hi5 HG4
    generalize x.tr = t at *
    generalize x.ra = r at *
    generalize x.sl = s at *
    generalize x.wa = c at *
    generalize w6.heap.size = rb at *
    rintro w7 ⟨hB7, hD7, hs7, q0, q1, q2, q3⟩
    have hrw : rb ≠ w.heap.size := by omega
    obtain ⟨m, hm⟩ : ∃ m : Nat, 1 + n % 4 = (m : Int) := ⟨(1 + n % 4).toNat, by omega⟩
    have hwm : IntKind.wrap .i64 (m : Int) = (m : Int) := IntWalk.i64_in _ ⟨by omega, by omega⟩
    have hm4 : m ≤ 4 := by omega
    have bt : B64 t := by unfold B64; omega
    have br : B64 r := by unfold B64; omega
    have bs : B64 s := by unfold B64; omega
    have bc : B64 c := by unfold B64; omega
    go_region_held3 (fun ω => ω.cell? ⟨rb, 0, none⟩ = some (.int .i64 t) ∧ ω.cell? ⟨rb, 1, none⟩ = some (.int .i64 r) ∧ ω.cell? ⟨rb, 2, none⟩ = some (.int .i64 s) ∧ ω.cell? ⟨rb, 3, none⟩ = some (.int .i64 c)) (refine ⟨?_, ?_, ?_, ?_⟩ <;> (repeat' (first | (with_reducible assumption) | (with_reducible refine cell_alloc_keep ?_) | (with_reducible refine cell_drew_keep ?_) | (with_reducible refine cell_drewN_keep ?_) | (with_reducible refine cell_grown (by with_reducible assumption) ?_ hrw) | ((refine (hb9.cell (p := ⟨rb, _, none⟩) ?_).trans ?_) <;> (first | omega | (with_reducible assumption) | (show rb < _; omega) | skip))))) (first | (go_at_call 64; ((with_reducible refine (refPick _ _ _ (by omega) (by omega)).mono ?_); rintro e w8 ⟨rfl, rfl⟩)) | (go_at_call 95; ((with_reducible refine (servosFrom _ g 0 t r s c m _ (by (repeat' (first | (with_reducible assumption) | (with_reducible refine DiceOk.alloc ?_ _) | (with_reducible refine DiceOk.drew ?_)))) (by omega) (by omega) hm4 t1 t2 c1 c2).mono ?_); rintro e w8 ⟨v8, L, rfl, hL, hfine, hown, hg8, hdd⟩; obtain ⟨hv8, ok8⟩ := svGD_ok hown hL hm4 (fun x h => (by have := hfine x h; unfold SvFine at this; unfold B64; omega)); have ok8 := Lib.hid ok8; have hfine := Lib.hid hfine; have hk8 : (svGD v8 m L).ks = [true, true, false] := rfl; generalize svGD v8 m L = g8 at *; subst hv8; have hz8 := hg8.size; (repeat (first | simp only [World.size_alloc] at hz8 | simp only [World.size_drew] at hz8)))) | (go_at_call 15; ((with_reducible refine (shareSays_true g8 hk8 t r s c z bt br bs bc bz _ ok8.out).mono ?_); rintro e w9 ⟨rfl, hb9⟩)) | fail)
    go_wp2
    go_ret
    exact ⟨rfl, Below.trans (Below.grown (Below.drew hB7) hg8 (by simp; omega) (fun k hk => by cases hk; omega)) (hb9.mono (by omega))⟩
end Go.Proofs.Ytdfpenjhpemokaa.Sx
namespace Go.Proofs.Ytdfpenjhpemokaa
open Go.ChangeShapes Go.WideShapes Go.ChangeAt Go.Deep Go.RowKit in
set_option maxRecDepth 100000 in
theorem walkShareMade {H : Type} (W : World) (base : Nat) (enc : TypeId × Value → H) (v0 v1 v2 : Value) {d0 d1 d2 : DataW H} {p0 p1 p2 : List MemPlace}
    (k0 : Value.okWide Try.prog W .any base 78 v0) (k1 : Value.okWide Try.prog W .any base 3 v1) (k2 : Value.okWide Try.prog W .any base 3 v2)
    (h0 : DataW.Trod enc Try.prog W 0 (fun _ => true) true 78 v0 d0 p0) (_ : DataW.Trod enc Try.prog W 0 (fun _ => true) true 3 v1 d1 p1) (_ : DataW.Trod enc Try.prog W 0 (fun _ => true) true 3 v2 d2 p2) :
    Calls Try.prog 16 #[v0, v1, v2] W fun e W' => e = .returned (.bool true) ∧ Below W.heap.size W W' := by
  obtain ⟨g, hk, rfl, o⟩ := Sx.given_flat [true] (by decide) Try.underlying78 (by kernel_rfl) (by kernel_rfl) k0 h0
  obtain ⟨x, rfl, ex⟩ := okWide_int Try.underlying3 k1
  obtain ⟨y, rfl, ey⟩ := okWide_int Try.underlying3 k2
  exact Sx.shareMade_true g hk x y ex ey W o
end Go.Proofs.Ytdfpenjhpemokaa
