/-
  The statement 'LineOverSaid': for every input the Go function LineOver returns true, and each argument reads afterwards as it read before. No condition.
-/
import Derived.Test.YtdfpenjhpemokaaWLineOver
import Derived.Test.YtdfpenjhpemokaaFrame
set_option linter.unusedVariables false
set_option linter.unusedSimpArgs false
namespace Go.Proofs.Ytdfpenjhpemokaa.lLineOver
open Go.ChangeShapes Go.WideShapes Go.ChangeAt Go.RowKit

set_option maxRecDepth 100000 in
theorem lifted (os : Os) (started : os.Started) (H : Type) (enc : TypeId × Value → H) :
    ReturnsInHanded {} Try.checked os 17 .any (Rows.lineOverSpec.pre6 enc Try.prog Try.f17 Rows.lineOverRow.domain false) (Rows.lineOverSpec.post enc Try.prog Try.f17 false true false false) := by
  refine returnsInHanded_of_change (C := Try.checked) fr_own started (by kernel_rfl) Try.func17
    (ChangeSpec.witness6 (enc := enc) (C := Try.checked) false ⟨#[], #[.agg #[.slice none 0 0, .slice none 0 0], .agg #[.int .i64 0, .int .i64 0]], []⟩ 8 (by kernel_rfl) (by kernel_rfl) (by kernel_rfl) (by kernel_rfl)) ?_
  intro W base args ds gs before hval0 hW _ _
  have hval : ∀ (j : Nat) t v, Try.f17.params[j]? = some t → args[j]? = some v → Value.okWide Try.prog W .any base t v := hval0
  have hW' := hW
  obtain ⟨p, q, hA0, hV, rfl, _, _⟩ := hW
  have hA : DataW.TrodAll enc Try.prog W 0 (fun _ => true) true Try.f17.params.toList args.toList ds p := hA0
  rw [Try.params17] at hA hval
  obtain ⟨v0, vs0, d0, ds0, p0, q0, hargs, rfl, rfl, h0, r0⟩ := trodAll_cons hA
  obtain ⟨v1, vs1, d1, ds1, p1, q1, rfl, rfl, rfl, h1, r1⟩ := trodAll_cons r0
  obtain ⟨rfl, rfl, rfl⟩ := trodAll_nil r1
  obtain rfl : args = #[v0, v1] := by cases args; simp_all
  obtain ⟨rfl, rfl⟩ := trodVars_none hV
  simp only [List.append_nil] at hW' hA0
  refine (walkLineOver W base enc v0 v1 (hval 0 81 v0 rfl rfl) (hval 1 41 v1 rfl rfl) h0 h1).mono fun e W' ⟨he, hb⟩ => ?_
  subst he
  exact ⟨_, rfl, post_law (pv := []) hW' (fun _ _ _ => (trodAll_cons_mk (shut_bool Try.underlying4 _) trodAll_mk0)) (trodAll_below fr_laid hb _ _ _ _ (by kernel_rfl) (fun x hx => hW'.lt x hx) hA0) (fun _ _ => rfl) (List.append_nil _).symm hb⟩

theorem k0 : (Rows.lineOverRow.wf (OpenSpec.ofChange Rows.lineOverSpec) : Bool) = true := by kernel_rfl
theorem k3 : (Try.f17.params.all (Try.prog.readableRec ·) : Bool) = true := by kernel_rfl
theorem k4 : (namedTie Try.prog Rows.lineOverRow.named Rows.lineOverSpec.vars : Bool) = true := by kernel_rfl
theorem k5 : ((Rows.lineOverRow.stops == []) : Bool) = true := by kernel_rfl
theorem k7 : ((Rows.lineOverRow.knobs == []) : Bool) = true := by kernel_rfl
theorem k9 : ((Rows.lineOverRow.inPlace == Try.prog.inPlace 17) : Bool) = true := by kernel_rfl
theorem k10 : ((Rows.lineOverRow.unfollowed == Try.prog.unfollowed 17) : Bool) = true := by kernel_rfl
theorem k11 : ((Rows.lineOverRow.recurses == Try.prog.recurses 17) : Bool) = true := by kernel_rfl
theorem k12 : ((Rows.lineOverRow.named == Try.prog.varsNamed 17) : Bool) = true := by kernel_rfl
theorem k13 : ((Rows.lineOverRow.maps == (Try.f17.params.toList ++ Rows.lineOverSpec.plain.varTypes Try.prog).any (Try.prog.mapsRec ·)) : Bool) = true := by kernel_rfl
theorem k14 : ((Rows.lineOverRow.ifaces == (Try.f17.params.toList ++ Rows.lineOverSpec.plain.varTypes Try.prog).any (Try.prog.ifacesRec ·)) : Bool) = true := by kernel_rfl
theorem k15 : ((Rows.lineOverRow.mapsOut == Try.prog.mapsAmong Try.f17.resultTypes.toList) : Bool) = true := by kernel_rfl
theorem k16 : ((Rows.lineOverRow.loops == (Try.f17.params.toList ++ Rows.lineOverSpec.plain.varTypes Try.prog).any (Try.prog.loopsFrom ·)) : Bool) = true := by kernel_rfl
theorem k17 : ((Rows.lineOverRow.wideKeys == (Try.f17.params.toList ++ Rows.lineOverSpec.plain.varTypes Try.prog ++ Try.f17.resultTypes.toList).any (Try.prog.wideKeysFrom ·)) : Bool) = true := by kernel_rfl
theorem k18 : (Rows.lineOverSpec.vars.all (Try.prog.varReadable ·) : Bool) = true := by kernel_rfl
theorem k19 : (Try.f17.resultTypes.all (fun t => Try.prog.readableRec t && decide (t < Try.prog.types.size)) : Bool) = true := by kernel_rfl
theorem k20 : ((Rows.lineOverRow.ifacesOut == Try.f17.resultTypes.toList.any (Try.prog.ifacesRec ·)) : Bool) = true := by kernel_rfl
theorem k21 : ((Rows.lineOverRow.loopsOut == Try.f17.resultTypes.toList.any (Try.prog.loopsFrom ·)) : Bool) = true := by kernel_rfl
theorem k22 : ((Rows.lineOverRow.plainKeys == Try.prog.plainKeys) : Bool) = true := by kernel_rfl
theorem k23 : (Rows.lineOverRow.shortTexts.isNone : Bool) = true := by kernel_rfl
theorem k26 : ((Rows.lineOverRow.lifted == Try.prog.liftsFinal) : Bool) = true := by
  show (Rows.lineOverRow.lifted == Try.prog.liftsFinal) = true
  rw [fr_lifts]
  kernel_rfl
theorem k27 : ((Try.prog.make == some Rows.lineOverRow.make) : Bool) = true := by
  show (Try.prog.make == some Rows.lineOverRow.make) = true
  rw [fr_make]
  kernel_rfl
theorem k28 : ((Rows.lineOverRow.kinds == (if Rows.lineOverRow.domain.isEmpty then [] else Try.f17.params.toList.map fun t => match Try.prog.underlying t with | some (.int k) => some k | _ => none)) : Bool) = true := by kernel_rfl
theorem k29 : ((Rows.lineOverRow.pinned == Rows.lineOverRow.pinnedBy) : Bool) = true := by kernel_rfl
theorem k30 : ((Rows.lineOverRow.veiled == (Try.f17.params.toList ++ Rows.lineOverSpec.plain.varTypes Try.prog ++ Try.f17.resultTypes.toList).any (Try.prog.veiledRec ·)) : Bool) = true := by kernel_rfl
theorem k31 : (Rows.lineOverRow.veiledFits Try.prog Try.f17.params.toList (Try.f17.params.toList ++ Rows.lineOverSpec.plain.varTypes Try.prog ++ Try.f17.resultTypes.toList) : Bool) = true := by kernel_rfl
set_option maxRecDepth 100000 in
theorem closed : joinedFacts Try.prog 17 Try.f17 Rows.lineOverSpec Rows.lineOverRow = true := (and2 (and2 (and2 (and2 (and2 (and2 (and2 (and2 (and2 (and2 (and2 (and2 (and2 (and2 (and2 (and2 (and2 (and2 (and2 (and2 (and2 (and2 (and2 (and2 (and2 (and2 (and2 (and2 (and2 (and2 (and2 k0 fr_laid) fr_maps) k3) k4) k5) fr_stops) k7) fr_knobs) k9) k10) k11) k12) k13) k14) k15) k16) k17) k18) k19) k20) k21) k22) k23) fr_heard) fr_enter) k26) k27) k28) k29) k30) k31)

theorem over : Rows.lineOverRow.holds Try.pinned (OpenSpec.ofChange Rows.lineOverSpec) :=
  OpenClaim.holds_of_wide 17 Try.f17 rfl rfl rfl rfl rfl rfl rfl ⟨rfl, rfl, rfl, rfl, rfl⟩ rfl rfl rfl rfl rfl (by kernel_rfl) Try.func17 closed
    (of_decide_eq_true (by kernel_rfl)) (by unfold Func.isWrapper; first | (rw [if_pos (by decide +kernel)]; kernel_rfl) | (rw [if_neg (by decide +kernel)]; exact ⟨rfl, rfl⟩))
    (fun os started H enc _ => lifted os started H enc)

/-- The statement. -/
theorem proved : Rows.LineOverSaid :=
  over
end Go.Proofs.Ytdfpenjhpemokaa.lLineOver
