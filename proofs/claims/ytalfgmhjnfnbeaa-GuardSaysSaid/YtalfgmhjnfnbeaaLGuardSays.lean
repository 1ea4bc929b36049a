/-
  The statement 'GuardSaysSaid': for every input the Go function GuardSays returns true, and each argument reads afterwards as it read before. No condition.
-/
import Derived.Test.YtalfgmhjnfnbeaaWGuardSays
import Derived.Test.YtalfgmhjnfnbeaaFrame
namespace Go.Proofs.Ytalfgmhjnfnbeaa.lGuardSays
open Go.ChangeShapes Go.WideShapes Go.ChangeAt Go.RowKit

set_option maxRecDepth 100000 in
theorem lifted (os : Os) (started : os.Started) (H : Type) (enc : TypeId × Value → H) :
    ReturnsInHanded {} Try.checked os 7 .any (Rows.guardSaysSpec.pre6 enc Try.prog Try.f7 Rows.guardSaysRow.domain false) (Rows.guardSaysSpec.post enc Try.prog Try.f7 false true false false) := by
  refine returnsInHanded_of_change (C := Try.checked) fr_own started (by kernel_rfl) Try.func7
    (ChangeSpec.witness6 (enc := enc) (C := Try.checked) false ⟨#[], #[.agg #[.int .i64 0, .int .i64 0, .int .i64 0, .int .i64 0, .int .i64 0, .int .i64 0], .int .i64 0], []⟩ 8 (by kernel_rfl) (by kernel_rfl) (by kernel_rfl) (by kernel_rfl)) ?_
  intro W base args ds gs before hval0 hW _ _
  have hval : ∀ (j : Nat) t v, Try.f7.params[j]? = some t → args[j]? = some v → Value.okWide Try.prog W .any base t v := hval0
  have hW' := hW
  obtain ⟨p, q, hA0, hV, rfl, _, _⟩ := hW
  have hA : DataW.TrodAll enc Try.prog W 0 (fun _ => true) true Try.f7.params.toList args.toList ds p := hA0
  rw [Try.params7] at hA hval
  obtain ⟨v0, vs0, d0, ds0, p0, q0, hargs, rfl, rfl, h0, r0⟩ := trodAll_cons hA
  obtain ⟨v1, vs1, d1, ds1, p1, q1, rfl, rfl, rfl, h1, r1⟩ := trodAll_cons r0
  obtain ⟨rfl, rfl, rfl⟩ := trodAll_nil r1
  obtain rfl : args = #[v0, v1] := by cases args; simp_all
  obtain ⟨rfl, rfl⟩ := trodVars_none hV
  simp only [List.append_nil] at hW' hA0
  obtain ⟨cs0_0, rfl, hf0_0⟩ := flat_open [3, 3, 3, 3, 3, 3] Try.underlying47 (by kernel_rfl) (by kernel_rfl) (hval 0 47 v0 rfl rfl)
  obtain ⟨c0_0, cs0_1, rfl, hc0_0, hf0_1⟩ := okCells_cons hf0_0
  obtain ⟨x0, rfl, bx0⟩ := cell_int Try.underlying3 hc0_0
  obtain ⟨c0_1, cs0_2, rfl, hc0_1, hf0_2⟩ := okCells_cons hf0_1
  obtain ⟨x1, rfl, bx1⟩ := cell_int Try.underlying3 hc0_1
  obtain ⟨c0_2, cs0_3, rfl, hc0_2, hf0_3⟩ := okCells_cons hf0_2
  obtain ⟨x2, rfl, bx2⟩ := cell_int Try.underlying3 hc0_2
  obtain ⟨c0_3, cs0_4, rfl, hc0_3, hf0_4⟩ := okCells_cons hf0_3
  obtain ⟨x3, rfl, bx3⟩ := cell_int Try.underlying3 hc0_3
  obtain ⟨c0_4, cs0_5, rfl, hc0_4, hf0_5⟩ := okCells_cons hf0_4
  obtain ⟨x4, rfl, bx4⟩ := cell_int Try.underlying3 hc0_4
  obtain ⟨c0_5, cs0_6, rfl, hc0_5, hf0_6⟩ := okCells_cons hf0_5
  obtain ⟨x5, rfl, bx5⟩ := cell_int Try.underlying3 hc0_5
  obtain rfl := okCells_nil hf0_6
  obtain ⟨x6, rfl, bx6⟩ := okWide_int Try.underlying3 (hval 1 3 v1 rfl rfl)
  refine (GuardSays_core x0 x1 x2 x3 x4 x5 x6 bx0 bx1 bx2 bx3 bx4 bx5 bx6 W).mono fun e W' ⟨he, hb⟩ => ?_
  subst he
  exact ⟨_, rfl, post_law (pv := []) hW' (fun _ _ _ => (trodAll_cons_mk (shut_bool Try.underlying4 _) trodAll_mk0)) (trodAll_below fr_laid hb _ _ _ _ (by kernel_rfl) (fun x hx => hW'.lt x hx) hA0) (fun _ _ => rfl) (List.append_nil _).symm hb⟩

theorem over : Rows.guardSaysRow.holds Try.pinned (OpenSpec.ofChange Rows.guardSaysSpec) :=
  OpenClaim.holds_of_wide 7 Try.f7 rfl rfl rfl rfl rfl rfl rfl ⟨rfl, rfl, rfl, rfl, rfl⟩ rfl rfl rfl rfl rfl (by kernel_rfl) Try.func7 (by kernel_rfl)
    (of_decide_eq_true (by kernel_rfl)) (by unfold Func.isWrapper; first | (rw [if_pos (by decide +kernel)]; kernel_rfl) | (rw [if_neg (by decide +kernel)]; exact ⟨rfl, rfl⟩))
    (fun os started H enc _ => lifted os started H enc)

/-- The statement. -/
theorem proved : Rows.GuardSaysSaid :=
  over
end Go.Proofs.Ytalfgmhjnfnbeaa.lGuardSays
