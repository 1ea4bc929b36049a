/-
  The law ShareMade walked.
-/
import Derived.Test.YtdfpenjhpemokaaWShareSays
import Derived.Test.YtdfpenjhpemokaaServos
set_option linter.unusedVariables false
namespace Go.Proofs.Ytdfpenjhpemokaa.Sx
open Go.RowKit
theorem craftAxes (x y : Ax) (li co : Int) (w : World) : (Instr.field 86 (.agg (craftL x y li co).toArray) 0).run Try.prog w = .ok (.agg (x.cells ++ y.cells).toArray) w := by
  obtain ⟨x0, x1, x2, x3, x4, x5, x6, x7, x8, x9, xa, xb, xc, xd, xe⟩ := x
  obtain ⟨y0, y1, y2, y3, y4, y5, y6, y7, y8, y9, ya, yb, yc, yd, ye⟩ := y
  simp [Instr.field, run_underlying Try.underlying86, craftL, Ax.cells, asAgg, go_sem]
def svGD (v : Value) (n : Nat) (L : List (Int × Int × Bool)) : GD where
  A := match v with | .slice A _ _ => A | _ => none
  c := match v with | .slice _ _ c => c | _ => 0
  n := n
  ks := [true, true, false]
  fi i j := if j = 0 then (L[i]?.getD (0, 0, false)).1 else if j = 1 then (L[i]?.getD (0, 0, false)).2.1 else 0
  fb i _ := (L[i]?.getD (0, 0, false)).2.2
theorem svL_at : ∀ (L : List (Int × Int × Bool)) (i j : Nat), i < L.length → j < 3 → (svL L)[i * 3 + j]? = some (match j with | 0 => .int .i64 (L[i]?.getD (0, 0, false)).1 | 1 => .int .i64 (L[i]?.getD (0, 0, false)).2.1 | _ => .bool (L[i]?.getD (0, 0, false)).2.2)
  | [], i, j, h, _ => absurd h (Nat.not_lt_zero _)
  | s :: r, 0, j, _, hj => by
    match j, hj with
    | 0, _ => rfl
    | 1, _ => rfl
    | 2, _ => rfl
  | s :: r, i + 1, j, h, hj => by
    have ih := svL_at r i j (by simpa using h) hj
    have e : (i + 1) * 3 + j = (i * 3 + j) + 1 + 1 + 1 := by omega
    rw [e]
    show (svL r)[i * 3 + j]? = _
    rw [ih]
    rfl
theorem svGD_ok {w : World} {base t : Nat} {v : Value} {n : Nat} {L : List (Int × Int × Bool)} (h : w.ownsRow base t 3 v n (svL L)) (hL : L.length = n) (hn : n ≤ 4) (hb : ∀ x ∈ L, B64 x.1 ∧ B64 x.2.1) : v = .slice (svGD v n L).A (svGD v n L).n (svGD v n L).c ∧ (svGD v n L).ok w := by
  have hbd : ∀ i : Nat, B64 (L[i]?.getD (0, 0, false)).1 ∧ B64 (L[i]?.getD (0, 0, false)).2.1 := fun i => by
    cases e : L[i]? with
    | none => exact ⟨by show B64 0; unfold B64; omega, by show B64 0; unfold B64; omega⟩
    | some s => exact hb s (List.mem_of_getElem? e)
  have hv : v = .slice (svGD v n L).A (svGD v n L).n (svGD v n L).c := by
    rcases h.2 with ⟨rfl, rfl⟩ | ⟨g, cap, cur, rfl, _⟩ <;> rfl
  refine ⟨hv, ⟨by show n ≤ _; omega, fun i j hi hj => ?_, fun i j => ?_⟩⟩
  · have hi' : i < n := hi
    have hj' : j < 3 := hj
    rcases h.2 with ⟨_, h0⟩ | ⟨g, cap, cur, rfl, _⟩
    · omega
    · refine ⟨g, 0, rfl, (h.lt g rfl).2, ?_⟩
      have e1 := svL_at L i j (by omega) hj'
      have e2 := h.cells (g := g) rfl _ _ e1
      refine Eq.trans ?_ (e2.trans ?_)
      · show w.cell? ⟨g, 0 + (i * 3 + j), none⟩ = w.cell? _
        simp [Addr.add]
        split
        · have h0 : i * 3 + j = 0 := by omega
          rw [h0]
        · rfl
      · match j, hj' with
        | 0, _ => rfl
        | 1, _ => rfl
        | 2, _ => rfl
  · show B64 (if j = 0 then _ else if j = 1 then _ else 0)
    by_cases h0 : j = 0
    · rw [if_pos h0]; exact (hbd i).1
    · rw [if_neg h0]
      by_cases h1 : j = 1
      · rw [if_pos h1]; exact (hbd i).2
      · rw [if_neg h1]; unfold B64; omega
end Go.Proofs.Ytdfpenjhpemokaa.Sx
namespace Go.Proofs.Ytdfpenjhpemokaa
end Go.Proofs.Ytdfpenjhpemokaa
