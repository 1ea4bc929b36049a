/-
  The statement 'CraftSaysSaid': for every input the Go function CraftSays returns true, and each argument reads afterwards as it read before. No condition.
-/
import Derived.Test.YtdfpenjhpemokaaWCraftSays
import Derived.Test.YtdfpenjhpemokaaFrame
set_option linter.unusedVariables false
set_option linter.unusedSimpArgs false
namespace Go.Proofs.Ytdfpenjhpemokaa.lCraftSays
open Go.ChangeShapes Go.WideShapes Go.ChangeAt Go.RowKit

set_option maxRecDepth 100000 in
theorem lifted (os : Os) (started : os.Started) (H : Type) (enc : TypeId × Value → H) :
    ReturnsInHanded {} Try.checked os 18 .any (Rows.craftSaysSpec.pre6 enc Try.prog Try.f18 Rows.craftSaysRow.domain false) (Rows.craftSaysSpec.post enc Try.prog Try.f18 false true false false) := by
  refine returnsInHanded_of_change (C := Try.checked) fr_own started (by kernel_rfl) Try.func18
    (ChangeSpec.witness6 (enc := enc) (C := Try.checked) false ⟨#[], #[.agg #[.int .i64 0, .int .i64 0, .int .i64 0, .int .i64 0, .int .i64 0, .int .i64 0, .int .i64 0, .int .i64 0, .int .i64 0, .int .i64 0, .int .i64 0, .int .i64 0, .slice none 0 0, .slice none 0 0, .int .i64 0, .int .i64 0, .int .i64 0, .int .i64 0, .int .i64 0, .int .i64 0, .int .i64 0, .int .i64 0, .int .i64 0, .int .i64 0, .int .i64 0, .int .i64 0, .int .i64 0, .slice none 0 0, .slice none 0 0, .int .i64 0, .int .i64 0, .int .i64 0]], []⟩ 8 (by kernel_rfl) (by kernel_rfl) (by kernel_rfl) (by kernel_rfl)) ?_
  intro W base args ds gs before hval0 hW _ _
  have hval : ∀ (j : Nat) t v, Try.f18.params[j]? = some t → args[j]? = some v → Value.okWide Try.prog W .any base t v := hval0
  have hW' := hW
  obtain ⟨p, q, hA0, hV, rfl, _, _⟩ := hW
  have hA : DataW.TrodAll enc Try.prog W 0 (fun _ => true) true Try.f18.params.toList args.toList ds p := hA0
  rw [Try.params18] at hA hval
  obtain ⟨v0, vs0, d0, ds0, p0, q0, hargs, rfl, rfl, h0, r0⟩ := trodAll_cons hA
  obtain ⟨rfl, rfl, rfl⟩ := trodAll_nil r0
  obtain rfl : args = #[v0] := by cases args; simp_all
  obtain ⟨rfl, rfl⟩ := trodVars_none hV
  simp only [List.append_nil] at hW' hA0
  refine (walkCraftSays W base enc v0 (hval 0 86 v0 rfl rfl) h0).mono fun e W' ⟨he, hb⟩ => ?_
  subst he
  exact ⟨_, rfl, post_law (pv := []) hW' (fun _ _ _ => (trodAll_cons_mk (shut_bool Try.underlying4 _) trodAll_mk0)) (trodAll_below fr_laid hb _ _ _ _ (by kernel_rfl) (fun x hx => hW'.lt x hx) hA0) (fun _ _ => rfl) (List.append_nil _).symm hb⟩

theorem k0 : (Rows.craftSaysRow.wf (OpenSpec.ofChange Rows.craftSaysSpec) : Bool) = true := by kernel_rfl
theorem k3 : (Try.f18.params.all (Try.prog.readableRec ·) : Bool) = true := by kernel_rfl
theorem k4 : (namedTie Try.prog Rows.craftSaysRow.named Rows.craftSaysSpec.vars : Bool) = true := by kernel_rfl
theorem k5 : ((Rows.craftSaysRow.stops == []) : Bool) = true := by kernel_rfl
theorem k7 : ((Rows.craftSaysRow.knobs == []) : Bool) = true := by kernel_rfl
theorem k9 : ((Rows.craftSaysRow.inPlace == Try.prog.inPlace 18) : Bool) = true := by kernel_rfl
theorem k10 : ((Rows.craftSaysRow.unfollowed == Try.prog.unfollowed 18) : Bool) = true := by kernel_rfl
theorem k11 : ((Rows.craftSaysRow.recurses == Try.prog.recurses 18) : Bool) = true := by kernel_rfl
theorem k12 : ((Rows.craftSaysRow.named == Try.prog.varsNamed 18) : Bool) = true := by kernel_rfl
theorem k13 : ((Rows.craftSaysRow.maps == (Try.f18.params.toList ++ Rows.craftSaysSpec.plain.varTypes Try.prog).any (Try.prog.mapsRec ·)) : Bool) = true := by kernel_rfl
theorem k14 : ((Rows.craftSaysRow.ifaces == (Try.f18.params.toList ++ Rows.craftSaysSpec.plain.varTypes Try.prog).any (Try.prog.ifacesRec ·)) : Bool) = true := by kernel_rfl
theorem k15 : ((Rows.craftSaysRow.mapsOut == Try.prog.mapsAmong Try.f18.resultTypes.toList) : Bool) = true := by kernel_rfl
theorem k16 : ((Rows.craftSaysRow.loops == (Try.f18.params.toList ++ Rows.craftSaysSpec.plain.varTypes Try.prog).any (Try.prog.loopsFrom ·)) : Bool) = true := by kernel_rfl
theorem k17 : ((Rows.craftSaysRow.wideKeys == (Try.f18.params.toList ++ Rows.craftSaysSpec.plain.varTypes Try.prog ++ Try.f18.resultTypes.toList).any (Try.prog.wideKeysFrom ·)) : Bool) = true := by kernel_rfl
theorem k18 : (Rows.craftSaysSpec.vars.all (Try.prog.varReadable ·) : Bool) = true := by kernel_rfl
theorem k19 : (Try.f18.resultTypes.all (fun t => Try.prog.readableRec t && decide (t < Try.prog.types.size)) : Bool) = true := by kernel_rfl
theorem k20 : ((Rows.craftSaysRow.ifacesOut == Try.f18.resultTypes.toList.any (Try.prog.ifacesRec ·)) : Bool) = true := by kernel_rfl
theorem k21 : ((Rows.craftSaysRow.loopsOut == Try.f18.resultTypes.toList.any (Try.prog.loopsFrom ·)) : Bool) = true := by kernel_rfl
theorem k22 : ((Rows.craftSaysRow.plainKeys == Try.prog.plainKeys) : Bool) = true := by kernel_rfl
theorem k23 : (Rows.craftSaysRow.shortTexts.isNone : Bool) = true := by kernel_rfl
theorem k26 : ((Rows.craftSaysRow.lifted == Try.prog.liftsFinal) : Bool) = true := by
  show (Rows.craftSaysRow.lifted == Try.prog.liftsFinal) = true
  rw [fr_lifts]
  kernel_rfl
theorem k27 : ((Try.prog.make == some Rows.craftSaysRow.make) : Bool) = true := by
  show (Try.prog.make == some Rows.craftSaysRow.make) = true
  rw [fr_make]
  kernel_rfl
theorem k28 : ((Rows.craftSaysRow.kinds == (if Rows.craftSaysRow.domain.isEmpty then [] else Try.f18.params.toList.map fun t => match Try.prog.underlying t with | some (.int k) => some k | _ => none)) : Bool) = true := by kernel_rfl
theorem k29 : ((Rows.craftSaysRow.pinned == Rows.craftSaysRow.pinnedBy) : Bool) = true := by kernel_rfl
theorem k30 : ((Rows.craftSaysRow.veiled == (Try.f18.params.toList ++ Rows.craftSaysSpec.plain.varTypes Try.prog ++ Try.f18.resultTypes.toList).any (Try.prog.veiledRec ·)) : Bool) = true := by kernel_rfl
theorem k31 : (Rows.craftSaysRow.veiledFits Try.prog Try.f18.params.toList (Try.f18.params.toList ++ Rows.craftSaysSpec.plain.varTypes Try.prog ++ Try.f18.resultTypes.toList) : Bool) = true := by kernel_rfl
set_option maxRecDepth 100000 in
theorem closed : joinedFacts Try.prog 18 Try.f18 Rows.craftSaysSpec Rows.craftSaysRow = true := (and2 (and2 (and2 (and2 (and2 (and2 (and2 (and2 (and2 (and2 (and2 (and2 (and2 (and2 (and2 (and2 (and2 (and2 (and2 (and2 (and2 (and2 (and2 (and2 (and2 (and2 (and2 (and2 (and2 (and2 (and2 k0 fr_laid) fr_maps) k3) k4) k5) fr_stops) k7) fr_knobs) k9) k10) k11) k12) k13) k14) k15) k16) k17) k18) k19) k20) k21) k22) k23) fr_heard) fr_enter) k26) k27) k28) k29) k30) k31)

theorem over : Rows.craftSaysRow.holds Try.pinned (OpenSpec.ofChange Rows.craftSaysSpec) :=
  OpenClaim.holds_of_wide 18 Try.f18 rfl rfl rfl rfl rfl rfl rfl ⟨rfl, rfl, rfl, rfl, rfl⟩ rfl rfl rfl rfl rfl (by kernel_rfl) Try.func18 closed
    (of_decide_eq_true (by kernel_rfl)) (by unfold Func.isWrapper; first | (rw [if_pos (by decide +kernel)]; kernel_rfl) | (rw [if_neg (by decide +kernel)]; exact ⟨rfl, rfl⟩))
    (fun os started H enc _ => lifted os started H enc)

/-- The statement. -/
theorem proved : Rows.CraftSaysSaid :=
  over
end Go.Proofs.Ytdfpenjhpemokaa.lCraftSays
