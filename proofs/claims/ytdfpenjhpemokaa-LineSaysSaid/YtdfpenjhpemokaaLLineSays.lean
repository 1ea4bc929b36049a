/-
  The statement 'LineSaysSaid': for every input the Go function LineSays returns true, and each argument reads afterwards as it read before. No condition.
-/
import Derived.Test.YtdfpenjhpemokaaWLineSays
import Derived.Test.YtdfpenjhpemokaaFrame
set_option linter.unusedVariables false
set_option linter.unusedSimpArgs false
namespace Go.Proofs.Ytdfpenjhpemokaa.lLineSays
open Go.ChangeShapes Go.WideShapes Go.ChangeAt Go.RowKit

set_option maxRecDepth 100000 in
theorem lifted (os : Os) (started : os.Started) (H : Type) (enc : TypeId × Value → H) :
    ReturnsInHanded {} Try.checked os 12 .any (Rows.lineSaysSpec.pre6 enc Try.prog Try.f12 Rows.lineSaysRow.domain false) (Rows.lineSaysSpec.post enc Try.prog Try.f12 false true false false) := by
  refine returnsInHanded_of_change (C := Try.checked) fr_own started (by kernel_rfl) Try.func12
    (ChangeSpec.witness6 (enc := enc) (C := Try.checked) false ⟨#[], #[.agg #[.slice none 0 0, .slice none 0 0], .int .i64 0], []⟩ 8 (by kernel_rfl) (by kernel_rfl) (by kernel_rfl) (by kernel_rfl)) ?_
  intro W base args ds gs before hval0 hW _ _
  have hval : ∀ (j : Nat) t v, Try.f12.params[j]? = some t → args[j]? = some v → Value.okWide Try.prog W .any base t v := hval0
  have hW' := hW
  obtain ⟨p, q, hA0, hV, rfl, _, _⟩ := hW
  have hA : DataW.TrodAll enc Try.prog W 0 (fun _ => true) true Try.f12.params.toList args.toList ds p := hA0
  rw [Try.params12] at hA hval
  obtain ⟨v0, vs0, d0, ds0, p0, q0, hargs, rfl, rfl, h0, r0⟩ := trodAll_cons hA
  obtain ⟨v1, vs1, d1, ds1, p1, q1, rfl, rfl, rfl, h1, r1⟩ := trodAll_cons r0
  obtain ⟨rfl, rfl, rfl⟩ := trodAll_nil r1
  obtain rfl : args = #[v0, v1] := by cases args; simp_all
  obtain ⟨rfl, rfl⟩ := trodVars_none hV
  simp only [List.append_nil] at hW' hA0
  refine (walkLineSays W base enc v0 v1 (hval 0 81 v0 rfl rfl) (hval 1 3 v1 rfl rfl) h0 h1).mono fun e W' ⟨he, hb⟩ => ?_
  subst he
  exact ⟨_, rfl, post_law (pv := []) hW' (fun _ _ _ => (trodAll_cons_mk (shut_bool Try.underlying4 _) trodAll_mk0)) (trodAll_below fr_laid hb _ _ _ _ (by kernel_rfl) (fun x hx => hW'.lt x hx) hA0) (fun _ _ => rfl) (List.append_nil _).symm hb⟩

theorem k0 : (Rows.lineSaysRow.wf (OpenSpec.ofChange Rows.lineSaysSpec) : Bool) = true := by kernel_rfl
theorem k3 : (Try.f12.params.all (Try.prog.readableRec ·) : Bool) = true := by kernel_rfl
theorem k4 : (namedTie Try.prog Rows.lineSaysRow.named Rows.lineSaysSpec.vars : Bool) = true := by kernel_rfl
theorem k5 : ((Rows.lineSaysRow.stops == []) : Bool) = true := by kernel_rfl
theorem k7 : ((Rows.lineSaysRow.knobs == []) : Bool) = true := by kernel_rfl
theorem k9 : ((Rows.lineSaysRow.inPlace == Try.prog.inPlace 12) : Bool) = true := by kernel_rfl
theorem k10 : ((Rows.lineSaysRow.unfollowed == Try.prog.unfollowed 12) : Bool) = true := by kernel_rfl
theorem k11 : ((Rows.lineSaysRow.recurses == Try.prog.recurses 12) : Bool) = true := by kernel_rfl
theorem k12 : ((Rows.lineSaysRow.named == Try.prog.varsNamed 12) : Bool) = true := by kernel_rfl
theorem k13 : ((Rows.lineSaysRow.maps == (Try.f12.params.toList ++ Rows.lineSaysSpec.plain.varTypes Try.prog).any (Try.prog.mapsRec ·)) : Bool) = true := by kernel_rfl
theorem k14 : ((Rows.lineSaysRow.ifaces == (Try.f12.params.toList ++ Rows.lineSaysSpec.plain.varTypes Try.prog).any (Try.prog.ifacesRec ·)) : Bool) = true := by kernel_rfl
theorem k15 : ((Rows.lineSaysRow.mapsOut == Try.prog.mapsAmong Try.f12.resultTypes.toList) : Bool) = true := by kernel_rfl
theorem k16 : ((Rows.lineSaysRow.loops == (Try.f12.params.toList ++ Rows.lineSaysSpec.plain.varTypes Try.prog).any (Try.prog.loopsFrom ·)) : Bool) = true := by kernel_rfl
theorem k17 : ((Rows.lineSaysRow.wideKeys == (Try.f12.params.toList ++ Rows.lineSaysSpec.plain.varTypes Try.prog ++ Try.f12.resultTypes.toList).any (Try.prog.wideKeysFrom ·)) : Bool) = true := by kernel_rfl
theorem k18 : (Rows.lineSaysSpec.vars.all (Try.prog.varReadable ·) : Bool) = true := by kernel_rfl
theorem k19 : (Try.f12.resultTypes.all (fun t => Try.prog.readableRec t && decide (t < Try.prog.types.size)) : Bool) = true := by kernel_rfl
theorem k20 : ((Rows.lineSaysRow.ifacesOut == Try.f12.resultTypes.toList.any (Try.prog.ifacesRec ·)) : Bool) = true := by kernel_rfl
theorem k21 : ((Rows.lineSaysRow.loopsOut == Try.f12.resultTypes.toList.any (Try.prog.loopsFrom ·)) : Bool) = true := by kernel_rfl
theorem k22 : ((Rows.lineSaysRow.plainKeys == Try.prog.plainKeys) : Bool) = true := by kernel_rfl
theorem k23 : (Rows.lineSaysRow.shortTexts.isNone : Bool) = true := by kernel_rfl
theorem k26 : ((Rows.lineSaysRow.lifted == Try.prog.liftsFinal) : Bool) = true := by
  show (Rows.lineSaysRow.lifted == Try.prog.liftsFinal) = true
  rw [fr_lifts]
  kernel_rfl
theorem k27 : ((Try.prog.make == some Rows.lineSaysRow.make) : Bool) = true := by
  show (Try.prog.make == some Rows.lineSaysRow.make) = true
  rw [fr_make]
  kernel_rfl
theorem k28 : ((Rows.lineSaysRow.kinds == (if Rows.lineSaysRow.domain.isEmpty then [] else Try.f12.params.toList.map fun t => match Try.prog.underlying t with | some (.int k) => some k | _ => none)) : Bool) = true := by kernel_rfl
theorem k29 : ((Rows.lineSaysRow.pinned == Rows.lineSaysRow.pinnedBy) : Bool) = true := by kernel_rfl
theorem k30 : ((Rows.lineSaysRow.veiled == (Try.f12.params.toList ++ Rows.lineSaysSpec.plain.varTypes Try.prog ++ Try.f12.resultTypes.toList).any (Try.prog.veiledRec ·)) : Bool) = true := by kernel_rfl
theorem k31 : (Rows.lineSaysRow.veiledFits Try.prog Try.f12.params.toList (Try.f12.params.toList ++ Rows.lineSaysSpec.plain.varTypes Try.prog ++ Try.f12.resultTypes.toList) : Bool) = true := by kernel_rfl
set_option maxRecDepth 100000 in
theorem closed : joinedFacts Try.prog 12 Try.f12 Rows.lineSaysSpec Rows.lineSaysRow = true := (and2 (and2 (and2 (and2 (and2 (and2 (and2 (and2 (and2 (and2 (and2 (and2 (and2 (and2 (and2 (and2 (and2 (and2 (and2 (and2 (and2 (and2 (and2 (and2 (and2 (and2 (and2 (and2 (and2 (and2 (and2 k0 fr_laid) fr_maps) k3) k4) k5) fr_stops) k7) fr_knobs) k9) k10) k11) k12) k13) k14) k15) k16) k17) k18) k19) k20) k21) k22) k23) fr_heard) fr_enter) k26) k27) k28) k29) k30) k31)

theorem over : Rows.lineSaysRow.holds Try.pinned (OpenSpec.ofChange Rows.lineSaysSpec) :=
  OpenClaim.holds_of_wide 12 Try.f12 rfl rfl rfl rfl rfl rfl rfl ⟨rfl, rfl, rfl, rfl, rfl⟩ rfl rfl rfl rfl rfl (by kernel_rfl) Try.func12 closed
    (of_decide_eq_true (by kernel_rfl)) (by unfold Func.isWrapper; first | (rw [if_pos (by decide +kernel)]; kernel_rfl) | (rw [if_neg (by decide +kernel)]; exact ⟨rfl, rfl⟩))
    (fun os started H enc _ => lifted os started H enc)

/-- The statement. -/
theorem proved : Rows.LineSaysSaid :=
  over
end Go.Proofs.Ytdfpenjhpemokaa.lLineSays
