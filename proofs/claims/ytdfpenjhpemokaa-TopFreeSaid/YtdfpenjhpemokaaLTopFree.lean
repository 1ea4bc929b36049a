/-
  The statement 'TopFreeSaid': for every input the Go function TopFree returns true, and each argument reads afterwards as it read before. No condition.
-/
import Derived.Test.YtdfpenjhpemokaaWTopFree
import Derived.Test.YtdfpenjhpemokaaFrame
namespace Go.Proofs.Ytdfpenjhpemokaa.lTopFree
open Go.ChangeShapes Go.WideShapes Go.ChangeAt Go.RowKit

set_option maxRecDepth 100000 in
theorem lifted (os : Os) (started : os.Started) (H : Type) (enc : TypeId × Value → H) :
    ReturnsInHanded {} Try.checked os 25 .any (Rows.topFreeSpec.pre6 enc Try.prog Try.f25 Rows.topFreeRow.domain false) (Rows.topFreeSpec.post enc Try.prog Try.f25 false true false false) := by
  refine returnsInHanded_of_change (C := Try.checked) fr_own started (by kernel_rfl) Try.func25
    (ChangeSpec.witness6 (enc := enc) (C := Try.checked) false ⟨#[], #[.agg #[.int .i64 0, .int .i64 0, .int .i64 0, .int .i64 0, .int .i64 0, .int .i64 0], .int .i64 0, .int .i64 0, .int .i64 0], []⟩ 8 (by kernel_rfl) (by kernel_rfl) (by kernel_rfl) (by kernel_rfl)) ?_
  intro W base args ds gs before hval0 hW _ _
  have hval : ∀ (j : Nat) t v, Try.f25.params[j]? = some t → args[j]? = some v → Value.okWide Try.prog W .any base t v := hval0
  have hW' := hW
  obtain ⟨p, q, hA0, hV, rfl, _, _⟩ := hW
  have hA : DataW.TrodAll enc Try.prog W 0 (fun _ => true) true Try.f25.params.toList args.toList ds p := hA0
  rw [Try.params25] at hA hval
  obtain ⟨v0, vs0, d0, ds0, p0, q0, hargs, rfl, rfl, h0, r0⟩ := trodAll_cons hA
  obtain ⟨v1, vs1, d1, ds1, p1, q1, rfl, rfl, rfl, h1, r1⟩ := trodAll_cons r0
  obtain ⟨v2, vs2, d2, ds2, p2, q2, rfl, rfl, rfl, h2, r2⟩ := trodAll_cons r1
  obtain ⟨v3, vs3, d3, ds3, p3, q3, rfl, rfl, rfl, h3, r3⟩ := trodAll_cons r2
  obtain ⟨rfl, rfl, rfl⟩ := trodAll_nil r3
  obtain rfl : args = #[v0, v1, v2, v3] := by cases args; simp_all
  obtain ⟨rfl, rfl⟩ := trodVars_none hV
  simp only [List.append_nil] at hW' hA0
  obtain ⟨cs0_0, rfl, hf0_0⟩ := flat_open [3, 3, 3, 3, 3, 3] Try.underlying71 (by kernel_rfl) (by kernel_rfl) (hval 0 71 v0 rfl rfl)
  obtain ⟨c0_0, cs0_1, rfl, hc0_0, hf0_1⟩ := okCells_cons hf0_0
  obtain ⟨x0, rfl, bx0⟩ := cell_int Try.underlying3 hc0_0
  obtain ⟨c0_1, cs0_2, rfl, hc0_1, hf0_2⟩ := okCells_cons hf0_1
  obtain ⟨x1, rfl, bx1⟩ := cell_int Try.underlying3 hc0_1
  obtain ⟨c0_2, cs0_3, rfl, hc0_2, hf0_3⟩ := okCells_cons hf0_2
  obtain ⟨x2, rfl, bx2⟩ := cell_int Try.underlying3 hc0_2
  obtain ⟨c0_3, cs0_4, rfl, hc0_3, hf0_4⟩ := okCells_cons hf0_3
  obtain ⟨x3, rfl, bx3⟩ := cell_int Try.underlying3 hc0_3
  obtain ⟨c0_4, cs0_5, rfl, hc0_4, hf0_5⟩ := okCells_cons hf0_4
  obtain ⟨x4, rfl, bx4⟩ := cell_int Try.underlying3 hc0_4
  obtain ⟨c0_5, cs0_6, rfl, hc0_5, hf0_6⟩ := okCells_cons hf0_5
  obtain ⟨x5, rfl, bx5⟩ := cell_int Try.underlying3 hc0_5
  obtain rfl := okCells_nil hf0_6
  obtain ⟨x6, rfl, bx6⟩ := okWide_int Try.underlying3 (hval 1 3 v1 rfl rfl)
  obtain ⟨x7, rfl, bx7⟩ := okWide_int Try.underlying3 (hval 2 3 v2 rfl rfl)
  obtain ⟨x8, rfl, bx8⟩ := okWide_int Try.underlying3 (hval 3 3 v3 rfl rfl)
  refine (TopFree_core x0 x1 x2 x3 x4 x5 x6 x7 x8 bx0 bx1 bx2 bx3 bx4 bx5 bx6 bx7 bx8 W).mono fun e W' ⟨he, hb⟩ => ?_
  subst he
  exact ⟨_, rfl, post_law (pv := []) hW' (fun _ _ _ => (trodAll_cons_mk (shut_bool Try.underlying4 _) trodAll_mk0)) (trodAll_below fr_laid hb _ _ _ _ (by kernel_rfl) (fun x hx => hW'.lt x hx) hA0) (fun _ _ => rfl) (List.append_nil _).symm hb⟩

theorem k0 : (Rows.topFreeRow.wf (OpenSpec.ofChange Rows.topFreeSpec) : Bool) = true := by kernel_rfl
theorem k3 : (Try.f25.params.all (Try.prog.readableRec ·) : Bool) = true := by kernel_rfl
theorem k4 : (namedTie Try.prog Rows.topFreeRow.named Rows.topFreeSpec.vars : Bool) = true := by kernel_rfl
theorem k5 : ((Rows.topFreeRow.stops == []) : Bool) = true := by kernel_rfl
theorem k7 : ((Rows.topFreeRow.knobs == []) : Bool) = true := by kernel_rfl
theorem k9 : ((Rows.topFreeRow.inPlace == Try.prog.inPlace 25) : Bool) = true := by kernel_rfl
theorem k10 : ((Rows.topFreeRow.unfollowed == Try.prog.unfollowed 25) : Bool) = true := by kernel_rfl
theorem k11 : ((Rows.topFreeRow.recurses == Try.prog.recurses 25) : Bool) = true := by kernel_rfl
theorem k12 : ((Rows.topFreeRow.named == Try.prog.varsNamed 25) : Bool) = true := by kernel_rfl
theorem k13 : ((Rows.topFreeRow.maps == (Try.f25.params.toList ++ Rows.topFreeSpec.plain.varTypes Try.prog).any (Try.prog.mapsRec ·)) : Bool) = true := by kernel_rfl
theorem k14 : ((Rows.topFreeRow.ifaces == (Try.f25.params.toList ++ Rows.topFreeSpec.plain.varTypes Try.prog).any (Try.prog.ifacesRec ·)) : Bool) = true := by kernel_rfl
theorem k15 : ((Rows.topFreeRow.mapsOut == Try.prog.mapsAmong Try.f25.resultTypes.toList) : Bool) = true := by kernel_rfl
theorem k16 : ((Rows.topFreeRow.loops == (Try.f25.params.toList ++ Rows.topFreeSpec.plain.varTypes Try.prog).any (Try.prog.loopsFrom ·)) : Bool) = true := by kernel_rfl
theorem k17 : ((Rows.topFreeRow.wideKeys == (Try.f25.params.toList ++ Rows.topFreeSpec.plain.varTypes Try.prog ++ Try.f25.resultTypes.toList).any (Try.prog.wideKeysFrom ·)) : Bool) = true := by kernel_rfl
theorem k18 : (Rows.topFreeSpec.vars.all (Try.prog.varReadable ·) : Bool) = true := by kernel_rfl
theorem k19 : (Try.f25.resultTypes.all (fun t => Try.prog.readableRec t && decide (t < Try.prog.types.size)) : Bool) = true := by kernel_rfl
theorem k20 : ((Rows.topFreeRow.ifacesOut == Try.f25.resultTypes.toList.any (Try.prog.ifacesRec ·)) : Bool) = true := by kernel_rfl
theorem k21 : ((Rows.topFreeRow.loopsOut == Try.f25.resultTypes.toList.any (Try.prog.loopsFrom ·)) : Bool) = true := by kernel_rfl
theorem k22 : ((Rows.topFreeRow.plainKeys == Try.prog.plainKeys) : Bool) = true := by kernel_rfl
theorem k23 : (Rows.topFreeRow.shortTexts.isNone : Bool) = true := by kernel_rfl
theorem k26 : ((Rows.topFreeRow.lifted == Try.prog.liftsFinal) : Bool) = true := by
  show (Rows.topFreeRow.lifted == Try.prog.liftsFinal) = true
  rw [fr_lifts]
  kernel_rfl
theorem k27 : ((Try.prog.make == some Rows.topFreeRow.make) : Bool) = true := by
  show (Try.prog.make == some Rows.topFreeRow.make) = true
  rw [fr_make]
  kernel_rfl
theorem k28 : ((Rows.topFreeRow.kinds == (if Rows.topFreeRow.domain.isEmpty then [] else Try.f25.params.toList.map fun t => match Try.prog.underlying t with | some (.int k) => some k | _ => none)) : Bool) = true := by kernel_rfl
theorem k29 : ((Rows.topFreeRow.pinned == Rows.topFreeRow.pinnedBy) : Bool) = true := by kernel_rfl
theorem k30 : ((Rows.topFreeRow.veiled == (Try.f25.params.toList ++ Rows.topFreeSpec.plain.varTypes Try.prog ++ Try.f25.resultTypes.toList).any (Try.prog.veiledRec ·)) : Bool) = true := by kernel_rfl
theorem k31 : (Rows.topFreeRow.veiledFits Try.prog Try.f25.params.toList (Try.f25.params.toList ++ Rows.topFreeSpec.plain.varTypes Try.prog ++ Try.f25.resultTypes.toList) : Bool) = true := by kernel_rfl
set_option maxRecDepth 100000 in
theorem closed : joinedFacts Try.prog 25 Try.f25 Rows.topFreeSpec Rows.topFreeRow = true := (and2 (and2 (and2 (and2 (and2 (and2 (and2 (and2 (and2 (and2 (and2 (and2 (and2 (and2 (and2 (and2 (and2 (and2 (and2 (and2 (and2 (and2 (and2 (and2 (and2 (and2 (and2 (and2 (and2 (and2 (and2 k0 fr_laid) fr_maps) k3) k4) k5) fr_stops) k7) fr_knobs) k9) k10) k11) k12) k13) k14) k15) k16) k17) k18) k19) k20) k21) k22) k23) fr_heard) fr_enter) k26) k27) k28) k29) k30) k31)

theorem over : Rows.topFreeRow.holds Try.pinned (OpenSpec.ofChange Rows.topFreeSpec) :=
  OpenClaim.holds_of_wide 25 Try.f25 rfl rfl rfl rfl rfl rfl rfl ⟨rfl, rfl, rfl, rfl, rfl⟩ rfl rfl rfl rfl rfl (by kernel_rfl) Try.func25 closed
    (of_decide_eq_true (by kernel_rfl)) (by unfold Func.isWrapper; first | (rw [if_pos (by decide +kernel)]; kernel_rfl) | (rw [if_neg (by decide +kernel)]; exact ⟨rfl, rfl⟩))
    (fun os started H enc _ => lifted os started H enc)

/-- The statement. -/
theorem proved : Rows.TopFreeSaid :=
  over
end Go.Proofs.Ytdfpenjhpemokaa.lTopFree
